/- The law LandmarkActions. -/
import Derived.Test.YthhfckjddknmeaaLmX
import Derived.Test.YthhfckjddknmeaaLmCx
namespace Go.Proofs.Ythhfckjddknmeaa
set_option linter.unusedSimpArgs false
set_option linter.unusedVariables false
open Go Go.RowKit
set_option linter.unusedVariables false

section
variable {t : Tsk} {s : List Int} {f : Int × Int}
/-- Whatever holds on a way without the achievers of a fact is reached without making it. -/
theorem wlk_cut (hr : Right t) (hst : stB t.vars s = true) {a : Int × Int} {s' : List Int} (hw : Wlk t s a (ach t s f) s') : ∀ v, v < t.vars.length → Rch t s f v (nth s' v).toNat := by
  induction hw with
  | start => exact fun v hv => Rch.start hv
  | @step s' k hw hk hp hf ho ih =>
    intro v hv
    have hs' := wlk_st hr hst hw
    have hn := stB_len hs'
    rcases ap_fact (s' := s') (es := (opr t.ops k).effs) (fun i hi => by have := hr.eff k hk i hi; omega) (opr t.ops k).effs.length (Nat.le_refl _) v (by omega) with h | ⟨i, h1, h2, h3, h4⟩
    · show Rch t s f v (nth (apE s' (opr t.ops k).effs (opr t.ops k).effs.length) v).toNat
      rw [h]; exact ih v hv
    · have r1 := ho_rch hn hp ih
      have r2 := ho_rch hn h4 ih
      have hne : efF t k i ≠ f := fun e => by
        have ha : acB t s f k = true := by
          unfold acB
          refine anyB_true.2 ⟨i, h1, ?_⟩
          unfold acE
          rw [decide_eq_true e, hsM_iff.2 fun j hj => rcB_iff.2 (r1 j hj), hsM_iff.2 fun j hj => rcB_iff.2 (r2 j hj)]
          rfl
        have hm : (k : Int) ∈ ach t s f := mem_ach.2 ⟨k, hk, rfl, ha⟩
        obtain ⟨j, hj, hje⟩ := List.mem_iff_getElem.1 hm
        unfold opF at ho
        rw [Bool.not_eq_true', anyB_false] at ho
        have := ho j hj
        unfold nth at this
        simp [List.getD, List.getElem?_eq_getElem hj, hje] at this
      have := Rch.step (s := s) hk h1 hne r1 r2
      have e1 : (efF t k i).1.toNat = v := h2
      have e2 : (efF t k i).2 = nth (nxt t s' k) v := h3
      rw [e1, e2] at this
      exact this
/-- No goal is reached without the operators of a cut. -/
theorem arr_cut (hr : Right t) (hst : stB t.vars s = true) {a : Int × Int} {l : List (Int × Int)} (h : hsM l (rcB t s f) = false) : arB36 t (wlB t s a (ach t s f)) l = false := by
  rw [Bool.eq_false_iff]
  intro hh
  obtain ⟨s', hw, hl⟩ := (arr_iff hr hst).1 hh
  have : hsM l (rcB t s f) = true := hsM_iff.2 fun i hi => rcB_iff.2 (ho_rch (stB_len (wlk_st hr hst hw)) hl (wlk_cut hr hst hw) i hi)
  rw [this] at h
  cases h
end

set_option maxRecDepth 100000 in
set_option maxHeartbeats 8000000 in
theorem landmarkActions_any (t : Tsk) (p : Lies) (s : List Int) (AS : Option Addr) (cs : Nat) (w : World) (ht : TaskAt w w.heap.size t p) (hs : IntsAt w w.heap.size AS s) :
    Calls Try.prog 7 #[TaskV t p, .slice AS s.length cs] w fun e w' => e = .returned (.bool true) ∧ Below w.heap.size w w' := by
  have k0 := fun w1 => awake36_any w1
  have k1 := fun w1 (hb : Below w.heap.size w w1) => small_any t p w1 (ht.up hb)
  have k2 := fun w1 h (hb : Below w.heap.size w w1) => new_any t p w1 (ht.up hb) h
  have k3 := fun w1 (hb : Below w.heap.size w w1) => state_any t.vars s p.av AS p.cv cs w1 (ht.vars.up hb) (hs.up hb)
  have k5 := fun (ops : List Int) (AO : Option Addr) (co2 : Nat) w1 (hb : Below w.heap.size w w1) hst hS (ho : IntsAt w1 w1.heap.size AO ops) => walk36_any t p s ops AS AO cs co2 (-1) 0 w1 (ht.up hb) (hs.up hb) ho hst hS (.inl (by decide))
  have k6 := fun (M : Nat → Bool) (g : Nat) w1 (hb : Below w.heap.size w w1) hm hS => arrives36_any t p M g t.goal p.ag p.cg w1 (ht.up hb) hm (ht.goal.up hb) hS
  obtain ⟨av, ai, ag, ao, cv, ci, cg, co⟩ := p
  unfold TaskV at *
  dsimp only at *
  cases e1 : smB t
  · rw [e1] at k1
    clear k2 k3 k5 k6
    go_enter Try.func7, Try.ntmps7
    go_wp2_with fail; refine (k0 _).mono ?_; rintro e w1 ⟨rfl, hb1⟩; obtain ⟨hc1, hf1, hz1, hlt1, hle1⟩ := cellsIf hb1 (by (try simp); exact rfl); (try have : w.heap.size < w1.heap.size := (by omega)); (try have : w.heap.size < w1.heap.size + 1 := (by omega)); (try have : w.heap.size < w1.heap.size + 1 + 1 := (by omega)); (try have : w.heap.size + 1 < w1.heap.size := (by omega)); (try have : w.heap.size + 1 < w1.heap.size + 1 := (by omega)); (try have : w.heap.size + 1 < w1.heap.size + 1 + 1 := (by omega)); (try have : w.heap.size + 1 + 1 < w1.heap.size := (by omega)); (try have : w.heap.size + 1 + 1 < w1.heap.size + 1 := (by omega)); (try have : w.heap.size + 1 + 1 < w1.heap.size + 1 + 1 := (by omega))
    go_wp2_with fail; refine (k1 _ (by repeat (first | exact Below.refl _ _ | refine below_dN ?_ _ | refine Below.drew ?_ | refine Below.alloc ?_ (by first | omega | (simp; done) | (simp; omega)) _ | refine Below.setCell ?_ (by first | omega | (simp; done) | (simp; omega)) _ | refine below_step (by assumption) (by first | omega | (simp; done) | (simp; omega)) ?_))).mono ?_; rintro e w2 ⟨rfl, hb2⟩; obtain ⟨hc2, hf2, hz2, hlt2, hle2⟩ := cellsIf hb2 (by (try simp); exact rfl); (try have : w.heap.size < w2.heap.size := (by omega)); (try have : w.heap.size < w2.heap.size + 1 := (by omega)); (try have : w.heap.size < w2.heap.size + 1 + 1 := (by omega)); (try have : w.heap.size + 1 < w2.heap.size := (by omega)); (try have : w.heap.size + 1 < w2.heap.size + 1 := (by omega)); (try have : w.heap.size + 1 < w2.heap.size + 1 + 1 := (by omega)); (try have : w.heap.size + 1 + 1 < w2.heap.size := (by omega)); (try have : w.heap.size + 1 + 1 < w2.heap.size + 1 := (by omega)); (try have : w.heap.size + 1 + 1 < w2.heap.size + 1 + 1 := (by omega)); (try have : w1.heap.size < w2.heap.size := (by omega)); (try have : w1.heap.size < w2.heap.size + 1 := (by omega)); (try have : w1.heap.size < w2.heap.size + 1 + 1 := (by omega)); (try have : w1.heap.size + 1 < w2.heap.size := (by omega)); (try have : w1.heap.size + 1 < w2.heap.size + 1 := (by omega)); (try have : w1.heap.size + 1 < w2.heap.size + 1 + 1 := (by omega)); (try have : w1.heap.size + 1 + 1 < w2.heap.size := (by omega)); (try have : w1.heap.size + 1 + 1 < w2.heap.size + 1 := (by omega)); (try have : w1.heap.size + 1 + 1 < w2.heap.size + 1 + 1 := (by omega))
    go_wp2_with fail; refine (k0 _).mono ?_; rintro e w3 ⟨rfl, hb3⟩; obtain ⟨hc3, hf3, hz3, hlt3, hle3⟩ := cellsIf hb3 (by (try simp); exact rfl); (try have : w.heap.size < w3.heap.size := (by omega)); (try have : w.heap.size < w3.heap.size + 1 := (by omega)); (try have : w.heap.size < w3.heap.size + 1 + 1 := (by omega)); (try have : w.heap.size + 1 < w3.heap.size := (by omega)); (try have : w.heap.size + 1 < w3.heap.size + 1 := (by omega)); (try have : w.heap.size + 1 < w3.heap.size + 1 + 1 := (by omega)); (try have : w.heap.size + 1 + 1 < w3.heap.size := (by omega)); (try have : w.heap.size + 1 + 1 < w3.heap.size + 1 := (by omega)); (try have : w.heap.size + 1 + 1 < w3.heap.size + 1 + 1 := (by omega)); (try have : w1.heap.size < w3.heap.size := (by omega)); (try have : w1.heap.size < w3.heap.size + 1 := (by omega)); (try have : w1.heap.size < w3.heap.size + 1 + 1 := (by omega)); (try have : w1.heap.size + 1 < w3.heap.size := (by omega)); (try have : w1.heap.size + 1 < w3.heap.size + 1 := (by omega)); (try have : w1.heap.size + 1 < w3.heap.size + 1 + 1 := (by omega)); (try have : w1.heap.size + 1 + 1 < w3.heap.size := (by omega)); (try have : w1.heap.size + 1 + 1 < w3.heap.size + 1 := (by omega)); (try have : w1.heap.size + 1 + 1 < w3.heap.size + 1 + 1 := (by omega)); (try have : w2.heap.size < w3.heap.size := (by omega)); (try have : w2.heap.size < w3.heap.size + 1 := (by omega)); (try have : w2.heap.size < w3.heap.size + 1 + 1 := (by omega)); (try have : w2.heap.size + 1 < w3.heap.size := (by omega)); (try have : w2.heap.size + 1 < w3.heap.size + 1 := (by omega)); (try have : w2.heap.size + 1 < w3.heap.size + 1 + 1 := (by omega)); (try have : w2.heap.size + 1 + 1 < w3.heap.size := (by omega)); (try have : w2.heap.size + 1 + 1 < w3.heap.size + 1 := (by omega)); (try have : w2.heap.size + 1 + 1 < w3.heap.size + 1 + 1 := (by omega))
    go_wp2
    go_ret
    exact ⟨rfl, by repeat (first | exact Below.refl _ _ | refine below_dN ?_ _ | refine Below.drew ?_ | refine Below.alloc ?_ (by first | omega | (simp; done) | (simp; omega)) _ | refine Below.setCell ?_ (by first | omega | (simp; done) | (simp; omega)) _ | refine below_step (by assumption) (by first | omega | (simp; done) | (simp; omega)) ?_)⟩
  have hS := small_of e1
  rw [e1] at k1
  cases e2 : stB t.vars s
  · rw [e2] at k3
    clear k2 k5 k6
    go_enter Try.func7, Try.ntmps7
    go_wp2_with fail; refine (k0 _).mono ?_; rintro e w1 ⟨rfl, hb1⟩; obtain ⟨hc1, hf1, hz1, hlt1, hle1⟩ := cellsIf hb1 (by (try simp); exact rfl); (try have : w.heap.size < w1.heap.size := (by omega)); (try have : w.heap.size < w1.heap.size + 1 := (by omega)); (try have : w.heap.size < w1.heap.size + 1 + 1 := (by omega)); (try have : w.heap.size + 1 < w1.heap.size := (by omega)); (try have : w.heap.size + 1 < w1.heap.size + 1 := (by omega)); (try have : w.heap.size + 1 < w1.heap.size + 1 + 1 := (by omega)); (try have : w.heap.size + 1 + 1 < w1.heap.size := (by omega)); (try have : w.heap.size + 1 + 1 < w1.heap.size + 1 := (by omega)); (try have : w.heap.size + 1 + 1 < w1.heap.size + 1 + 1 := (by omega))
    go_wp2_with fail; refine (k1 _ (by repeat (first | exact Below.refl _ _ | refine below_dN ?_ _ | refine Below.drew ?_ | refine Below.alloc ?_ (by first | omega | (simp; done) | (simp; omega)) _ | refine Below.setCell ?_ (by first | omega | (simp; done) | (simp; omega)) _ | refine below_step (by assumption) (by first | omega | (simp; done) | (simp; omega)) ?_))).mono ?_; rintro e w2 ⟨rfl, hb2⟩; obtain ⟨hc2, hf2, hz2, hlt2, hle2⟩ := cellsIf hb2 (by (try simp); exact rfl); (try have : w.heap.size < w2.heap.size := (by omega)); (try have : w.heap.size < w2.heap.size + 1 := (by omega)); (try have : w.heap.size < w2.heap.size + 1 + 1 := (by omega)); (try have : w.heap.size + 1 < w2.heap.size := (by omega)); (try have : w.heap.size + 1 < w2.heap.size + 1 := (by omega)); (try have : w.heap.size + 1 < w2.heap.size + 1 + 1 := (by omega)); (try have : w.heap.size + 1 + 1 < w2.heap.size := (by omega)); (try have : w.heap.size + 1 + 1 < w2.heap.size + 1 := (by omega)); (try have : w.heap.size + 1 + 1 < w2.heap.size + 1 + 1 := (by omega)); (try have : w1.heap.size < w2.heap.size := (by omega)); (try have : w1.heap.size < w2.heap.size + 1 := (by omega)); (try have : w1.heap.size < w2.heap.size + 1 + 1 := (by omega)); (try have : w1.heap.size + 1 < w2.heap.size := (by omega)); (try have : w1.heap.size + 1 < w2.heap.size + 1 := (by omega)); (try have : w1.heap.size + 1 < w2.heap.size + 1 + 1 := (by omega)); (try have : w1.heap.size + 1 + 1 < w2.heap.size := (by omega)); (try have : w1.heap.size + 1 + 1 < w2.heap.size + 1 := (by omega)); (try have : w1.heap.size + 1 + 1 < w2.heap.size + 1 + 1 := (by omega))
    go_wp2_with fail; refine (k3 _ (by repeat (first | exact Below.refl _ _ | refine below_dN ?_ _ | refine Below.drew ?_ | refine Below.alloc ?_ (by first | omega | (simp; done) | (simp; omega)) _ | refine Below.setCell ?_ (by first | omega | (simp; done) | (simp; omega)) _ | refine below_step (by assumption) (by first | omega | (simp; done) | (simp; omega)) ?_))).mono ?_; rintro e w4 ⟨rfl, hb4⟩; obtain ⟨hc4, hf4, hz4, hlt4, hle4⟩ := cellsIf hb4 (by (try simp); exact rfl); (try have : w.heap.size < w4.heap.size := (by omega)); (try have : w.heap.size < w4.heap.size + 1 := (by omega)); (try have : w.heap.size < w4.heap.size + 1 + 1 := (by omega)); (try have : w.heap.size + 1 < w4.heap.size := (by omega)); (try have : w.heap.size + 1 < w4.heap.size + 1 := (by omega)); (try have : w.heap.size + 1 < w4.heap.size + 1 + 1 := (by omega)); (try have : w.heap.size + 1 + 1 < w4.heap.size := (by omega)); (try have : w.heap.size + 1 + 1 < w4.heap.size + 1 := (by omega)); (try have : w.heap.size + 1 + 1 < w4.heap.size + 1 + 1 := (by omega)); (try have : w1.heap.size < w4.heap.size := (by omega)); (try have : w1.heap.size < w4.heap.size + 1 := (by omega)); (try have : w1.heap.size < w4.heap.size + 1 + 1 := (by omega)); (try have : w1.heap.size + 1 < w4.heap.size := (by omega)); (try have : w1.heap.size + 1 < w4.heap.size + 1 := (by omega)); (try have : w1.heap.size + 1 < w4.heap.size + 1 + 1 := (by omega)); (try have : w1.heap.size + 1 + 1 < w4.heap.size := (by omega)); (try have : w1.heap.size + 1 + 1 < w4.heap.size + 1 := (by omega)); (try have : w1.heap.size + 1 + 1 < w4.heap.size + 1 + 1 := (by omega)); (try have : w2.heap.size < w4.heap.size := (by omega)); (try have : w2.heap.size < w4.heap.size + 1 := (by omega)); (try have : w2.heap.size < w4.heap.size + 1 + 1 := (by omega)); (try have : w2.heap.size + 1 < w4.heap.size := (by omega)); (try have : w2.heap.size + 1 < w4.heap.size + 1 := (by omega)); (try have : w2.heap.size + 1 < w4.heap.size + 1 + 1 := (by omega)); (try have : w2.heap.size + 1 + 1 < w4.heap.size := (by omega)); (try have : w2.heap.size + 1 + 1 < w4.heap.size + 1 := (by omega)); (try have : w2.heap.size + 1 + 1 < w4.heap.size + 1 + 1 := (by omega)); (try have : w3.heap.size < w4.heap.size := (by omega)); (try have : w3.heap.size < w4.heap.size + 1 := (by omega)); (try have : w3.heap.size < w4.heap.size + 1 + 1 := (by omega)); (try have : w3.heap.size + 1 < w4.heap.size := (by omega)); (try have : w3.heap.size + 1 < w4.heap.size + 1 := (by omega)); (try have : w3.heap.size + 1 < w4.heap.size + 1 + 1 := (by omega)); (try have : w3.heap.size + 1 + 1 < w4.heap.size := (by omega)); (try have : w3.heap.size + 1 + 1 < w4.heap.size + 1 := (by omega)); (try have : w3.heap.size + 1 + 1 < w4.heap.size + 1 + 1 := (by omega))
    go_wp2_with fail; refine (k0 _).mono ?_; rintro e w3 ⟨rfl, hb3⟩; obtain ⟨hc3, hf3, hz3, hlt3, hle3⟩ := cellsIf hb3 (by (try simp); exact rfl); (try have : w.heap.size < w3.heap.size := (by omega)); (try have : w.heap.size < w3.heap.size + 1 := (by omega)); (try have : w.heap.size < w3.heap.size + 1 + 1 := (by omega)); (try have : w.heap.size + 1 < w3.heap.size := (by omega)); (try have : w.heap.size + 1 < w3.heap.size + 1 := (by omega)); (try have : w.heap.size + 1 < w3.heap.size + 1 + 1 := (by omega)); (try have : w.heap.size + 1 + 1 < w3.heap.size := (by omega)); (try have : w.heap.size + 1 + 1 < w3.heap.size + 1 := (by omega)); (try have : w.heap.size + 1 + 1 < w3.heap.size + 1 + 1 := (by omega)); (try have : w1.heap.size < w3.heap.size := (by omega)); (try have : w1.heap.size < w3.heap.size + 1 := (by omega)); (try have : w1.heap.size < w3.heap.size + 1 + 1 := (by omega)); (try have : w1.heap.size + 1 < w3.heap.size := (by omega)); (try have : w1.heap.size + 1 < w3.heap.size + 1 := (by omega)); (try have : w1.heap.size + 1 < w3.heap.size + 1 + 1 := (by omega)); (try have : w1.heap.size + 1 + 1 < w3.heap.size := (by omega)); (try have : w1.heap.size + 1 + 1 < w3.heap.size + 1 := (by omega)); (try have : w1.heap.size + 1 + 1 < w3.heap.size + 1 + 1 := (by omega)); (try have : w2.heap.size < w3.heap.size := (by omega)); (try have : w2.heap.size < w3.heap.size + 1 := (by omega)); (try have : w2.heap.size < w3.heap.size + 1 + 1 := (by omega)); (try have : w2.heap.size + 1 < w3.heap.size := (by omega)); (try have : w2.heap.size + 1 < w3.heap.size + 1 := (by omega)); (try have : w2.heap.size + 1 < w3.heap.size + 1 + 1 := (by omega)); (try have : w2.heap.size + 1 + 1 < w3.heap.size := (by omega)); (try have : w2.heap.size + 1 + 1 < w3.heap.size + 1 := (by omega)); (try have : w2.heap.size + 1 + 1 < w3.heap.size + 1 + 1 := (by omega))
    go_wp2
    go_ret
    exact ⟨rfl, by repeat (first | exact Below.refl _ _ | refine below_dN ?_ _ | refine Below.drew ?_ | refine Below.alloc ?_ (by first | omega | (simp; done) | (simp; omega)) _ | refine Below.setCell ?_ (by first | omega | (simp; done) | (simp; omega)) _ | refine below_step (by assumption) (by first | omega | (simp; done) | (simp; omega)) ?_)⟩
  rw [e2] at k3
  have K2 := Lib.hid (fun w1 => k2 w1 hS.chk)
  have K4 := Lib.hid (fun q G wx (hF : FindAt wx G t q) (hs : IntsAt wx wx.heap.size AS s) => lcuts_any t q G s AS cs wx hF hs hS.right)
  have K5 := Lib.hid (fun ops AO co2 wx hb ho => k5 ops AO co2 wx hb e2 hS ho)
  have K6 := Lib.hid (fun M g wx hb hm => k6 M g wx hb hm hS)
  have Hst := Lib.hid e2
  have HS := Lib.hid hS
  clear k2 k5 k6 e1 e2 hS
  go_enter Try.func7, Try.ntmps7
  go_wp2_with fail; refine (k0 _).mono ?_; rintro e w1 ⟨rfl, hb1⟩; obtain ⟨hc1, hf1, hz1, hlt1, hle1⟩ := cellsIf hb1 (by (try simp); exact rfl); (try have : w.heap.size < w1.heap.size := (by omega)); (try have : w.heap.size < w1.heap.size + 1 := (by omega)); (try have : w.heap.size < w1.heap.size + 1 + 1 := (by omega)); (try have : w.heap.size + 1 < w1.heap.size := (by omega)); (try have : w.heap.size + 1 < w1.heap.size + 1 := (by omega)); (try have : w.heap.size + 1 < w1.heap.size + 1 + 1 := (by omega)); (try have : w.heap.size + 1 + 1 < w1.heap.size := (by omega)); (try have : w.heap.size + 1 + 1 < w1.heap.size + 1 := (by omega)); (try have : w.heap.size + 1 + 1 < w1.heap.size + 1 + 1 := (by omega))
  go_wp2_with fail; refine (k1 _ (by repeat (first | exact Below.refl _ _ | refine below_dN ?_ _ | refine Below.drew ?_ | refine Below.alloc ?_ (by first | omega | (simp; done) | (simp; omega)) _ | refine Below.setCell ?_ (by first | omega | (simp; done) | (simp; omega)) _ | refine below_step (by assumption) (by first | omega | (simp; done) | (simp; omega)) ?_))).mono ?_; rintro e w2 ⟨rfl, hb2⟩; obtain ⟨hc2, hf2, hz2, hlt2, hle2⟩ := cellsIf hb2 (by (try simp); exact rfl); (try have : w.heap.size < w2.heap.size := (by omega)); (try have : w.heap.size < w2.heap.size + 1 := (by omega)); (try have : w.heap.size < w2.heap.size + 1 + 1 := (by omega)); (try have : w.heap.size + 1 < w2.heap.size := (by omega)); (try have : w.heap.size + 1 < w2.heap.size + 1 := (by omega)); (try have : w.heap.size + 1 < w2.heap.size + 1 + 1 := (by omega)); (try have : w.heap.size + 1 + 1 < w2.heap.size := (by omega)); (try have : w.heap.size + 1 + 1 < w2.heap.size + 1 := (by omega)); (try have : w.heap.size + 1 + 1 < w2.heap.size + 1 + 1 := (by omega)); (try have : w1.heap.size < w2.heap.size := (by omega)); (try have : w1.heap.size < w2.heap.size + 1 := (by omega)); (try have : w1.heap.size < w2.heap.size + 1 + 1 := (by omega)); (try have : w1.heap.size + 1 < w2.heap.size := (by omega)); (try have : w1.heap.size + 1 < w2.heap.size + 1 := (by omega)); (try have : w1.heap.size + 1 < w2.heap.size + 1 + 1 := (by omega)); (try have : w1.heap.size + 1 + 1 < w2.heap.size := (by omega)); (try have : w1.heap.size + 1 + 1 < w2.heap.size + 1 := (by omega)); (try have : w1.heap.size + 1 + 1 < w2.heap.size + 1 + 1 := (by omega))
  go_wp2_with fail; refine (k3 _ (by repeat (first | exact Below.refl _ _ | refine below_dN ?_ _ | refine Below.drew ?_ | refine Below.alloc ?_ (by first | omega | (simp; done) | (simp; omega)) _ | refine Below.setCell ?_ (by first | omega | (simp; done) | (simp; omega)) _ | refine below_step (by assumption) (by first | omega | (simp; done) | (simp; omega)) ?_))).mono ?_; rintro e w4 ⟨rfl, hb4⟩; obtain ⟨hc4, hf4, hz4, hlt4, hle4⟩ := cellsIf hb4 (by (try simp); exact rfl); (try have : w.heap.size < w4.heap.size := (by omega)); (try have : w.heap.size < w4.heap.size + 1 := (by omega)); (try have : w.heap.size < w4.heap.size + 1 + 1 := (by omega)); (try have : w.heap.size + 1 < w4.heap.size := (by omega)); (try have : w.heap.size + 1 < w4.heap.size + 1 := (by omega)); (try have : w.heap.size + 1 < w4.heap.size + 1 + 1 := (by omega)); (try have : w.heap.size + 1 + 1 < w4.heap.size := (by omega)); (try have : w.heap.size + 1 + 1 < w4.heap.size + 1 := (by omega)); (try have : w.heap.size + 1 + 1 < w4.heap.size + 1 + 1 := (by omega)); (try have : w1.heap.size < w4.heap.size := (by omega)); (try have : w1.heap.size < w4.heap.size + 1 := (by omega)); (try have : w1.heap.size < w4.heap.size + 1 + 1 := (by omega)); (try have : w1.heap.size + 1 < w4.heap.size := (by omega)); (try have : w1.heap.size + 1 < w4.heap.size + 1 := (by omega)); (try have : w1.heap.size + 1 < w4.heap.size + 1 + 1 := (by omega)); (try have : w1.heap.size + 1 + 1 < w4.heap.size := (by omega)); (try have : w1.heap.size + 1 + 1 < w4.heap.size + 1 := (by omega)); (try have : w1.heap.size + 1 + 1 < w4.heap.size + 1 + 1 := (by omega)); (try have : w2.heap.size < w4.heap.size := (by omega)); (try have : w2.heap.size < w4.heap.size + 1 := (by omega)); (try have : w2.heap.size < w4.heap.size + 1 + 1 := (by omega)); (try have : w2.heap.size + 1 < w4.heap.size := (by omega)); (try have : w2.heap.size + 1 < w4.heap.size + 1 := (by omega)); (try have : w2.heap.size + 1 < w4.heap.size + 1 + 1 := (by omega)); (try have : w2.heap.size + 1 + 1 < w4.heap.size := (by omega)); (try have : w2.heap.size + 1 + 1 < w4.heap.size + 1 := (by omega)); (try have : w2.heap.size + 1 + 1 < w4.heap.size + 1 + 1 := (by omega)); (try have : w3.heap.size < w4.heap.size := (by omega)); (try have : w3.heap.size < w4.heap.size + 1 := (by omega)); (try have : w3.heap.size < w4.heap.size + 1 + 1 := (by omega)); (try have : w3.heap.size + 1 < w4.heap.size := (by omega)); (try have : w3.heap.size + 1 < w4.heap.size + 1 := (by omega)); (try have : w3.heap.size + 1 < w4.heap.size + 1 + 1 := (by omega)); (try have : w3.heap.size + 1 + 1 < w4.heap.size := (by omega)); (try have : w3.heap.size + 1 + 1 < w4.heap.size + 1 := (by omega)); (try have : w3.heap.size + 1 + 1 < w4.heap.size + 1 + 1 := (by omega))
  have hbx4 : Boxed w4 w.heap.size t ⟨av, ai, ag, ao, cv, ci, cg, co⟩ := by
    have h0 : Boxed (w.alloc (.cells #[.slice av t.vars.length cv, .slice ai t.init.length ci, .slice ag t.goal.length cg, .slice ao t.ops.length co] 26)) w.heap.size t ⟨av, ai, ag, ao, cv, ci, cg, co⟩ := by constructor <;> simp
    exact ((h0.up hb1).up hb2).up hb4
  have hbw4 : Below w.heap.size w w4 := by repeat (first | exact Below.refl _ _ | refine below_dN ?_ _ | refine Below.drew ?_ | refine Below.alloc ?_ (by first | omega | (simp; done) | (simp; omega)) _ | refine Below.setCell ?_ (by first | omega | (simp; done) | (simp; omega)) _ | refine below_step (by assumption) (by first | omega | (simp; done) | (simp; omega)) ?_)
  have z4 := hbw4.size
  clear hc1 hc2 hf1 hf2 hlt1 hlt2 hle1 hle2 hz1 hz2 hb1 hb2 hc4 hf4 hz4 hlt4 hle4 hb4 k0 k1 k3
  obtain ⟨z0, y0, y1, y2, y3⟩ := id hbx4
  dsimp only at y0 y1 y2 y3
  go_wp2_with fail
  refine (K2.out _ hbw4).mono ?_
  rintro e w5 ⟨⟨G, q, rfl, hF⟩, hb5⟩
  have hbw5 := hbw4.trans (hb5.mono z4)
  have hbx5 := hbx4.up hb5
  have z5 := hbw5.size
  clear z0 y0 y1 y2 y3 hbx4 hb5
  obtain ⟨z0, y0, y1, y2, y3⟩ := id hbx5
  dsimp only at y0 y1 y2 y3
  go_wp2_with fail
  refine (K4.out q G _ hF (hs.up hbw5)).mono ?_
  rintro e w6 ⟨⟨v6, rfl, hv6⟩, hb6⟩
  have hbw6 := hbw5.trans (hb6.mono z5)
  have hbx6 := hbx5.up hb6
  have z6 := hbw6.size
  clear z0 y0 y1 y2 y3 hbx5 hb6 hF
  obtain ⟨z0, y0, y1, y2, y3⟩ := id hbx6
  dsimp only at y0 y1 y2 y3
  have HTA := Lib.hid ht
  rcases lmC_cases Hst.out with ⟨hc0, hg0⟩ | ⟨hc3, hg3⟩
  case inr =>
    rw [hc3]
    have He3 : erV 3 = .iface 64 (.int .i64 3) := by unfold erV; rfl
    rw [He3]
    have Ki := Lib.hid (fun wx => is_any 3 3 wx (by decide))
    rw [He3] at Ki
    clear hc3 hg3 hv6
    go_wp2_with fail
    refine (Ki.out _).mono ?_
    rintro e w7 ⟨rfl, rfl⟩
    go_wp2
    go_ret
    exact ⟨by simp, hbw6⟩
  rw [hc0, erV_0]
  obtain ⟨A6, c6, rfl, _, hC6⟩ := hv6
  have hcut : ∀ k, k < (cuL t s).length → ∃ f, (cut (cuL t s) k).ops = ach t s f ∧ (cut (cuL t s) k).cost = mnC t (ach t s f) 1125899906842624 (ach t s f).length ∧ ach t s f ≠ [] ∧ hsM t.goal (rcB t s f) = false := fun k hk => by
    obtain ⟨i, hi, e⟩ := mem_cuN _ _ (cut_mem hk)
    replace e : cut (cuL t s) k = mkC t s 1125899906842624 (fac (lmL t s) i) := e
    have hm := fac_mem hi
    rw [show lmL t s = lmks t s by unfold lmL; rw [if_pos hc0]] at hm
    refine ⟨fac (lmL t s) i, by rw [e]; rfl, by rw [e]; rfl, lm_ach HS.out.right hc0 hi, ?_⟩
    rw [show lmL t s = lmks t s by unfold lmL; rw [if_pos hc0]]
    exact (mem_lmks.1 hm).2.2
  obtain ⟨L, hL⟩ : ∃ L, cuL t s = L := ⟨_, rfl⟩
  rw [hL] at hC6 hcut
  rw [hL]
  have HC6 := Lib.hid hC6
  have Hcut := Lib.hid hcut
  have lL := hC6.len
  clear hC6 hcut hL hc0 hg0
  go_wp2
  go_loopw [46] (fun i wr => ∃ k : Nat, k ≤ L.length ∧ i = .int .i64 k ∧ Below w6.heap.size w6 wr) (fun i _ => L.length - (intOf i).toNat)
  case atStart => exact ⟨0, by omega, rfl, Below.refl _ _⟩
  case round =>
    clear z0 y0 y1 y2 y3
    obtain ⟨k, hk, rfl, hbel⟩ := hrel
    have hbz := hbel.size
    have hbwr : Below w.heap.size w wr := hbw6.trans (hbel.mono z6)
    by_cases hlt : k < L.length
    · obtain ⟨b1, o1, S, c1, ea, hb1, d1, hI, d2⟩ := HC6.out.at2 hbel hlt
      subst ea
      have g1 : b1 < wr.heap.size := by omega
      have k0 : (0 : Int) ≤ (k : Int) := by omega
      have k1 : (k : Int) < (L.length : Int) := by omega
      obtain ⟨f, hf1, hf2, hf3, hf4⟩ := Hcut.out k hlt
      have hlo : (cut L k).ops.length ≤ t.ops.length := by rw [hf1]; exact ach_len
      have hpos : 0 < (cut L k).ops.length := by rw [hf1]; exact List.length_pos_iff.2 hf3
      have Hrg := Lib.hid (show ∀ i, i < (cut L k).ops.length → 0 ≤ nth (cut L k).ops i ∧ nth (cut L k).ops i < t.ops.length from fun i hi => by rw [hf1] at hi ⊢; exact ach_rng hi)
      have Hco := Lib.hid (show ∀ i, i < (cut L k).ops.length → (cut L k).cost ≤ (opr t.ops (nth (cut L k).ops i).toNat).cost from fun i hi => by rw [hf1] at hi ⊢; rw [hf2]; exact mnC_one t _ _ _ i hi)
      have Hno := Lib.hid (show arB36 t (wlB t s (-1, 0) (cut L k).ops) t.goal = false by rw [hf1]; exact arr_cut HS.out.right Hst.out hf4)
      obtain ⟨O, hO⟩ : ∃ O, (cut L k).ops = O := ⟨_, rfl⟩
      obtain ⟨C, hC⟩ : ∃ C, (cut L k).cost = C := ⟨_, rfl⟩
      rw [hO] at hlo hpos Hrg Hco Hno hI d1
      rw [hC] at Hco d2
      obtain ⟨wo, rfl⟩ : ∃ wo : World, wo = wr := ⟨_, rfl⟩
      have hbA : Below wo.heap.size wo (wo.alloc (.cells #[.slice S O.length c1, .int .i64 C] 62)) := (Below.refl _ _).alloc (Nat.le_refl _) _
      obtain ⟨z0, y0, y1, y2, y3⟩ := id ((hbx6.up hbel).up hbA)
      dsimp only at y0 y1 y2 y3
      have hIo := Lib.hid (hI.up hbel)
      have no20 := HS.out.no
      have x0 : (wo.alloc (.cells #[.slice S O.length c1, .int .i64 C] 62)).cell? ⟨wo.heap.size, 0, none⟩ = some (.slice S O.length c1) := by simp
      have x1 : (wo.alloc (.cells #[.slice S O.length c1, .int .i64 C] 62)).cell? ⟨wo.heap.size, 1, none⟩ = some (.int .i64 C) := by simp
      have hd : decide ((O.length : Int) = 0) = false := decide_eq_false (by omega)
      have hd2 : ((O.length : Int) == 0) = false := beq_eq_false_iff_ne.2 (by omega)
      have hd3 : ¬ O.length = 0 := by omega
      have hd4 : decide (O.length = 0) = false := decide_eq_false (by omega)
      have hd5 : ¬ O = [] := fun e => by rw [e] at hpos; simp at hpos
      clear hf1 hf2 hf3 hf4 hO hC hI
      obtain ⟨wA, hwA⟩ : ∃ wA, wA = wo.alloc (.cells #[.slice S O.length c1, .int .i64 C] 62) := ⟨_, rfl⟩
      have hbWA : Below wo.heap.size wo wA := hwA ▸ hbA
      have hbwA : Below w.heap.size w wA := hbwr.trans (hbWA.mono hbwr.size)
      have zA : wA.heap.size = wo.heap.size + 1 := by rw [hwA]; simp
      have HwA := Lib.hid hwA
      have K5x := Lib.hid (fun wx hb => K5.out O S c1 wx hb)
      go_wp2_with fail
      refine wp_region_G 14 (fun w' => ∀ b o, w'.cell? ⟨b, o, none⟩ = if b < wo.heap.size + 1 then (wo.alloc (.cells #[.slice S O.length c1, .int .i64 C] 62)).cell? ⟨b, o, none⟩ else hidC w' b o) (by kernel_rfl) (cif (B := wo.heap.size + 1) (Below.refl _ _).drew) ?_
      intro hG0
      refine wpAnyG_any (i := 0) (v := ?_) rfl hG0 (by kernel_rfl) (by kernel_rfl) (by kernel_rfl) rfl (fun _ _ _ h => h) (Or.inl ⟨by rfl, ?_⟩) ?_; rotate_left; (intro wS hSw; (try dsimp only at hSw); first | (go_simp; done) | (go_simp; with_reducible rfl) | (simp [go_sem, ↓IntWalk.iteOmega, *]; done) | (simp [go_sem, ↓IntWalk.iteOmega, *]; with_reducible rfl)); (intro hG1); clear hG0; (try simp only [Act.put, List.setIfInBounds_toArray, List.set_cons_zero, List.set_cons_succ, List.getElem_toArray, List.getElem_cons_succ, List.getElem_cons_zero])
      refine wpAnyG_take (i := 1) (v := ?_) rfl hG1 (by kernel_rfl) (by kernel_rfl) (by kernel_rfl) rfl (by kernel_rfl) (fun _ _ _ h => h) (Or.inl ⟨by rfl, ?_⟩) ?_; rotate_left; (intro wS hSw; (try dsimp only at hSw); first | (go_simp; done) | (go_simp; with_reducible rfl) | (simp [go_sem, ↓IntWalk.iteOmega, *]; done) | (simp [go_sem, ↓IntWalk.iteOmega, *]; with_reducible rfl)); (intro hG2); clear hG1; (try simp only [Act.put, List.setIfInBounds_toArray, List.set_cons_zero, List.set_cons_succ, List.getElem_toArray, List.getElem_cons_succ, List.getElem_cons_zero])
      refine wpAnyG_any (i := 2) (v := ?_) rfl hG2 (by kernel_rfl) (by kernel_rfl) (by kernel_rfl) rfl (fun _ _ _ h => h) (Or.inl ⟨by rfl, ?_⟩) ?_; rotate_left; (intro wS hSw; (try dsimp only at hSw); first | (go_simp; done) | (go_simp; with_reducible rfl) | (simp [go_sem, ↓IntWalk.iteOmega, *]; done) | (simp [go_sem, ↓IntWalk.iteOmega, *]; with_reducible rfl)); (intro hG3); clear hG2; (try simp only [Act.put, List.setIfInBounds_toArray, List.set_cons_zero, List.set_cons_succ, List.getElem_toArray, List.getElem_cons_succ, List.getElem_cons_zero])
      refine wpAnyG_any (i := 3) (v := ?_) rfl hG3 (by kernel_rfl) (by kernel_rfl) (by kernel_rfl) rfl (fun _ _ _ h => h) (Or.inl ⟨by rfl, ?_⟩) ?_; rotate_left; (intro wS hSw; (try dsimp only at hSw); first | (go_simp; done) | (go_simp; with_reducible rfl) | (simp [go_sem, ↓IntWalk.iteOmega, *]; done) | (simp [go_sem, ↓IntWalk.iteOmega, *]; with_reducible rfl)); (intro hG4); clear hG3; (try simp only [Act.put, List.setIfInBounds_toArray, List.set_cons_zero, List.set_cons_succ, List.getElem_toArray, List.getElem_cons_succ, List.getElem_cons_zero])
      refine wpAnyG_any (i := 4) (v := .bool false) rfl hG4 (by kernel_rfl) (by kernel_rfl) (by kernel_rfl) rfl (fun _ _ _ h => h) (Or.inl ⟨by rfl, ?_⟩) ?_; (focus (intro wS hSw; (try dsimp only at hSw); (try go_simp); (try simp [go_sem, ↓IntWalk.iteOmega, *]))); (intro hG5); clear hG4; (try simp only [Act.put, List.setIfInBounds_toArray, List.set_cons_zero, List.set_cons_succ, List.getElem_toArray, List.getElem_cons_succ, List.getElem_cons_zero])
      refine wpAnyG_take (i := 5) (v := ?_) rfl hG5 (by kernel_rfl) (by kernel_rfl) (by kernel_rfl) rfl (by kernel_rfl) (fun _ _ _ h => h) (Or.inl ⟨by rfl, ?_⟩) ?_; rotate_left; (intro wS hSw; (try dsimp only at hSw); first | (go_simp; done) | (go_simp; with_reducible rfl) | (simp [go_sem, ↓IntWalk.iteOmega, *]; done) | (simp [go_sem, ↓IntWalk.iteOmega, *]; with_reducible rfl)); (intro hG6); clear hG5; (try simp only [Act.put, List.setIfInBounds_toArray, List.set_cons_zero, List.set_cons_succ, List.getElem_toArray, List.getElem_cons_succ, List.getElem_cons_zero])
      refine wpAnyG_take (i := 6) (v := ?_) rfl hG6 (by kernel_rfl) (by kernel_rfl) (by kernel_rfl) rfl (by kernel_rfl) (fun _ _ _ h => h) (Or.inl ⟨by rfl, ?_⟩) ?_; rotate_left; (intro wS hSw; (try dsimp only at hSw); first | (go_simp; done) | (go_simp; with_reducible rfl) | (simp [go_sem, ↓IntWalk.iteOmega, *]; done) | (simp [go_sem, ↓IntWalk.iteOmega, *]; with_reducible rfl)); (intro hG7); clear hG6; (try simp only [Act.put, List.setIfInBounds_toArray, List.set_cons_zero, List.set_cons_succ, List.getElem_toArray, List.getElem_cons_succ, List.getElem_cons_zero])
      refine wpAnyG_any (i := 7) (v := ?_) rfl hG7 (by kernel_rfl) (by kernel_rfl) (by kernel_rfl) rfl (fun _ _ _ h => h) (Or.inl ⟨by rfl, ?_⟩) ?_; rotate_left; (intro wS hSw; (try dsimp only at hSw); first | (go_simp; done) | (go_simp; with_reducible rfl) | (simp [go_sem, ↓IntWalk.iteOmega, *]; done) | (simp [go_sem, ↓IntWalk.iteOmega, *]; with_reducible rfl)); (intro hG8); clear hG7; (try simp only [Act.put, List.setIfInBounds_toArray, List.set_cons_zero, List.set_cons_succ, List.getElem_toArray, List.getElem_cons_succ, List.getElem_cons_zero])
      refine wpAnyG_any (i := 8) (v := ?_) rfl hG8 (by kernel_rfl) (by kernel_rfl) (by kernel_rfl) rfl (fun _ _ _ h => h) (Or.inl ⟨by rfl, ?_⟩) ?_; rotate_left; (intro wS hSw; (try dsimp only at hSw); first | (go_simp; done) | (go_simp; with_reducible rfl) | (simp [go_sem, ↓IntWalk.iteOmega, *]; done) | (simp [go_sem, ↓IntWalk.iteOmega, *]; with_reducible rfl)); (intro hG9); clear hG8; (try simp only [Act.put, List.setIfInBounds_toArray, List.set_cons_zero, List.set_cons_succ, List.getElem_toArray, List.getElem_cons_succ, List.getElem_cons_zero])
      refine wpAnyG_any (i := 9) (v := ?_) rfl hG9 (by kernel_rfl) (by kernel_rfl) (by kernel_rfl) rfl (fun _ _ _ h => h) (Or.inl ⟨by rfl, ?_⟩) ?_; rotate_left; (intro wS hSw; (try dsimp only at hSw); first | (go_simp; done) | (go_simp; with_reducible rfl) | (simp [go_sem, ↓IntWalk.iteOmega, *]; done) | (simp [go_sem, ↓IntWalk.iteOmega, *]; with_reducible rfl)); (intro hG10); clear hG9; (try simp only [Act.put, List.setIfInBounds_toArray, List.set_cons_zero, List.set_cons_succ, List.getElem_toArray, List.getElem_cons_succ, List.getElem_cons_zero])
      refine wpAnyG_take (i := 10) (v := ?_) rfl hG10 (by kernel_rfl) (by kernel_rfl) (by kernel_rfl) rfl (by kernel_rfl) (fun _ _ _ h => h) (Or.inl ⟨by rfl, ?_⟩) ?_; rotate_left; (intro wS hSw; (try dsimp only at hSw); first | (go_simp; done) | (go_simp; with_reducible rfl) | (simp [go_sem, ↓IntWalk.iteOmega, *]; done) | (simp [go_sem, ↓IntWalk.iteOmega, *]; with_reducible rfl)); (intro hG11); clear hG10; (try simp only [Act.put, List.setIfInBounds_toArray, List.set_cons_zero, List.set_cons_succ, List.getElem_toArray, List.getElem_cons_succ, List.getElem_cons_zero])
      refine wpAnyG_any (i := 12) (v := ?_) rfl hG11 (by kernel_rfl) (by kernel_rfl) (by kernel_rfl) rfl (fun _ _ _ h => h) (Or.inl ⟨by rfl, ?_⟩) ?_; rotate_left; (intro wS hSw; (try dsimp only at hSw); first | (go_simp; done) | (go_simp; with_reducible rfl) | (simp [go_sem, ↓IntWalk.iteOmega, *]; done) | (simp [go_sem, ↓IntWalk.iteOmega, *]; with_reducible rfl)); (intro hG12); clear hG11; (try simp only [Act.put, List.setIfInBounds_toArray, List.set_cons_zero, List.set_cons_succ, List.getElem_toArray, List.getElem_cons_succ, List.getElem_cons_zero])
      refine wpAnyG_take (i := 13) (v := ?_) rfl hG12 (by kernel_rfl) (by kernel_rfl) (by kernel_rfl) rfl (by kernel_rfl) (fun _ _ _ h => h) (Or.inl ⟨by rfl, ?_⟩) ?_; rotate_left; (intro wS hSw; (try dsimp only at hSw); first | (go_simp; done) | (go_simp; with_reducible rfl) | (simp [go_sem, ↓IntWalk.iteOmega, *]; done) | (simp [go_sem, ↓IntWalk.iteOmega, *]; with_reducible rfl)); (intro hG13); clear hG12; (try simp only [Act.put, List.setIfInBounds_toArray, List.set_cons_zero, List.set_cons_succ, List.getElem_toArray, List.getElem_cons_succ, List.getElem_cons_zero])
      refine wpAnyG_ready (rs := [11]) (by kernel_rfl) (by simp) (AllG.cons rfl hG13 (fun K hK => ?_) AllG.nil)
      refine (if_pos (by rfl)).mpr ?_
      (go_simp; go_at_call 15; refine (K5.out O S c1 _ (hbwr.trans ((hbA.drew).mono hbwr.size)) ((hIo.out.up hbA).up ((Below.refl _ _).drew))).mono ?_; rintro e w8 ⟨⟨g, rfl, hm⟩, hb8⟩; have hb8A : Below (wo.heap.size + 1) (wo.alloc (.cells #[.slice S O.length c1, .int .i64 C] 62)) w8 := (Below.refl _ _).drew.trans (hb8.mono (by show _ ≤ (wo.alloc _).heap.size; simp)); have z8 : wo.heap.size + 1 ≤ w8.heap.size := (by have := hb8A.size; simpa using this); have HM := Lib.hid hm; clear hm hb8)
      refine hK.out _ _ (Or.inr (cif hb8A)) (fun hG14 => ?_); clear hK hG13; (try simp only [Act.put, List.setIfInBounds_toArray, List.set_cons_zero, List.set_cons_succ, List.getElem_toArray, List.getElem_cons_succ, List.getElem_cons_zero])
      refine wpAnyG_ready (rs := [14]) (by kernel_rfl) (by simp) (AllG.cons rfl hG14 (fun K hK => ?_) AllG.nil)
      refine (if_pos (by rfl)).mpr ?_
      (go_simp; go_at_call 14; refine (K6.out _ g _ (hbwr.trans ((hbA.trans (hb8A.mono (Nat.le_succ _))).mono hbwr.size)) HM.out).mono ?_; rintro e w9 ⟨rfl, hb9⟩; have hb9A : Below (wo.heap.size + 1) (wo.alloc (.cells #[.slice S O.length c1, .int .i64 C] 62)) w9 := hb8A.trans (hb9.mono z8); rw [Hno.out])
      refine hK.out _ _ (Or.inl rfl) (fun hG15 => ?_); clear hK hG14; (try simp only [Act.put, List.setIfInBounds_toArray, List.set_cons_zero, List.set_cons_succ, List.getElem_toArray, List.getElem_cons_succ, List.getElem_cons_zero])
      refine wpAnyG_any (i := 15) (v := ?_) rfl hG15 (by kernel_rfl) (by kernel_rfl) (by kernel_rfl) rfl (fun _ _ _ h => h) (Or.inl ⟨by rfl, ?_⟩) ?_; rotate_left; (intro wS hSw; (try dsimp only at hSw); first | (go_simp; done) | (go_simp; with_reducible rfl) | (simp [go_sem, ↓IntWalk.iteOmega, *]; done) | (simp [go_sem, ↓IntWalk.iteOmega, *]; with_reducible rfl)); (intro hG16); clear hG15; (try simp only [Act.put, List.setIfInBounds_toArray, List.set_cons_zero, List.set_cons_succ, List.getElem_toArray, List.getElem_cons_succ, List.getElem_cons_zero])
      refine wpAnyG_done (by kernel_rfl) ?_ _; clear hG16
      have hbo9 : Below wo.heap.size wo w9 := hbA.trans (hb9A.mono (Nat.le_succ _))
      have z9 : wo.heap.size + 1 ≤ w9.heap.size := by have := hb9A.size; simpa using this
      have v0 := (hb9A.cell (p := ⟨wo.heap.size, 0, none⟩) (Nat.lt_succ_self _)).trans x0
      have v1 := (hb9A.cell (p := ⟨wo.heap.size, 1, none⟩) (Nat.lt_succ_self _)).trans x1
      have V1 := Lib.hid v1
      have hb69 := hbel.trans (hbo9.mono hbz)
      have z69 := hb69.size
      clear z0 y0 y1 y2 y3 x0 x1 hwA hbWA hbwA zA HwA K5x hb9A hb9
      go_wp2
      go_loopw [69] (fun i wr => ∃ j : Nat, j ≤ O.length ∧ i = .int .i64 j ∧ Below w9.heap.size w9 wr) (fun i _ => O.length - (intOf i).toNat)
      case atStart => exact ⟨0, by omega, rfl, Below.refl _ _⟩
      case round =>
        clear v0 v1
        obtain ⟨j, hj, rfl, hb9r⟩ := hrel
        have h9z := hb9r.size
        have hb6r := hb69.trans (hb9r.mono z69)
        have hbw := hbw6.trans (hb6r.mono z6)
        by_cases hltj : j < O.length
        · obtain ⟨bs, os, es, hbs, hcs⟩ := hIo.out.at_ hltj
          subst es
          have hbor := hbo9.trans (hb9r.mono hbo9.size)
          have d0 := (hbor.cell (p := ⟨bs, os + j, none⟩) hbs).trans (hcs j hltj)
          have hrg := Hrg.out j hltj
          have hco := Hco.out j hltj
          obtain ⟨x, hx⟩ : ∃ x : Nat, nth O j = (x : Int) := ⟨(nth O j).toNat, by omega⟩
          rw [hx] at d0 hco
          simp only [Int.toNat_natCast] at hco
          have hxl : x < t.ops.length := by rw [hx] at hrg; omega
          obtain ⟨bo, oo, Sp, cS, Te, de, ec, hbo, n0, n1, n2, n3, f2, n4, e3⟩ := HTA.out.ops.at2 hbw hxl
          dsimp only at ec
          subst ec
          obtain ⟨z0, y0, y1, y2, y3⟩ := id (hbx6.up hb6r)
          dsimp only at y0 y1 y2 y3
          have v1 := (hb9r.cell (p := ⟨wo.heap.size, 1, none⟩) (by show wo.heap.size < _; omega)).trans V1.out
          have gs : bs < wr.heap.size := by have := hbor.size; omega
          have gc : bo < wr.heap.size := by have := hbw.size; omega
          have gX : wo.heap.size < wr.heap.size := by omega
          have j0 : (0 : Int) ≤ (j : Int) := by omega
          have j1 : (j : Int) < (O.length : Int) := by omega
          have x0 : (0 : Int) ≤ (x : Int) := by omega
          have x1 : (x : Int) < (t.ops.length : Int) := by omega
          obtain ⟨Cx, hCx⟩ : ∃ C, (opr t.ops x).cost = C := ⟨_, rfl⟩
          rw [hCx] at n2 hco
          have e0 : decide ((x : Int) < 0) = false := by simp
          have e1 : decide ((t.ops.length : Int) ≤ (x : Int)) = false := by simp; omega
          have e1' : decide (t.ops.length ≤ x) = false := by simp; omega
          have e2 : decide (Cx < C) = false := by simp; omega
          clear hcs hx n0 n1 n3 n4 f2 e3 hCx hrg
          go_wp2_with fail
          go_quiet (fail)
          go_wp2
          go_roundw
          case rel => exact ⟨j + 1, by omega, by go_num, by first | exact hb9r.drew | exact hb9r | (exact below_dN hb9r _)⟩
          case measure => simp [intOf]; omega
        · go_wp2
          go_roundw
          case rel => exact ⟨k + 1, by omega, by go_num, hb6r⟩
          case measure => simp [intOf]; omega
    · go_wp2
      go_ret
      exact ⟨rfl, hbwr⟩

end Go.Proofs.Ythhfckjddknmeaa

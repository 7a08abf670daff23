/- large (task): by ContainsFunc over the conditions. -/
import Derived.Test.YtkeelkpmajmjmaaDoorTaskF
namespace Go.Proofs.YtkeelkpmajmjmaaDoor
set_option linter.unusedSimpArgs false
set_option linter.unusedVariables false
open Go.RowKit
set_option linter.unusedVariables false

def hd (hs : List Hd) (k : Nat) : Hd := hs.getD k ⟨none, 0, []⟩
theorem hd_get {hs : List Hd} {k : Nat} (h : k < hs.length) : hs[k]? = some (hd hs k) := by unfold hd; simp [List.getD, List.getElem?_eq_getElem h]
theorem hd_mem {hs : List Hd} {k : Nat} (h : k < hs.length) : hd hs k ∈ hs := List.mem_of_getElem? (hd_get h)
/-- A row that has something: where it begins, its cells. -/
theorem Gath.at_ {w wr : World} {v : Value} {cs : List (List (Int × Int))} {hs : List Hd} (g : Gath w wr v cs hs) (hn : 0 < hs.length) :
    ∃ b cap, v = .slice (some ⟨b, 0, none⟩) hs.length cap ∧ b < wr.heap.size ∧ ∀ k, k < hs.length → wr.cell? ⟨b, k, none⟩ = some (.slice (hd hs k).a (hd hs k).l.length (hd hs k).c) := by
  obtain ⟨b, cap, rfl, hlt⟩ : ∃ b cap, v = .slice (some ⟨b, 0, none⟩) hs.length cap ∧ b < wr.heap.size := by
    rcases g.own.2 with ⟨_, h0⟩ | ⟨b, cap, cur, hv, hb, hg, _⟩
    · omega
    · exact ⟨b, cap, hv, (Array.getElem?_eq_some_iff.1 hg).1⟩
  refine ⟨b, cap, rfl, hlt, fun k hk => ?_⟩
  have := g.own.cells (g := b) rfl k ((hd hs k).v) (by simp [hd_get hk])
  simp [Addr.add, Hd.v] at this
  split at this
  · rename_i h0; subst h0; exact this
  · exact this

def over (h : Hd) : Bool := decide ((64 : Int) < h.l.length)

theorem lam_any (a : Option Addr) (n c : Nat) (w : World) (hn : n ≤ 140737488355328) : Calls Tryd.prog 42 #[.slice a n c] w fun e w' => e = .returned (.bool (decide ((64 : Int) < n))) ∧ w = w' := by
  go_enter Tryd.func42, Tryd.ntmps42
  go_wp2
  go_ret
  exact ⟨rfl, rfl⟩

set_option maxHeartbeats 1000000 in
theorem indexf_any (w0 : World) (v : Value) (cs : List (List (Int × Int))) (hs : List Hd) (w : World) (hg : Gath w0 w v cs hs) (hl : hs.length ≤ 300000) (hn : 0 < hs.length) :
    Calls Tryd.prog 45 #[v, .func (.func 42) #[] #[]] w fun e w' => (∃ i, e = .returned (.int .i64 i) ∧ decide (0 ≤ i) = anyB hs.length (fun k => over (hd hs k))) ∧ Below w.heap.size w w' := by
  obtain ⟨b, cap, rfl, hb, hc⟩ := hg.at_ hn
  go_enter Tryd.func45, Tryd.ntmps45
  go_wp2
  go_loopw [8] (fun i wr => ∃ k : Nat, k ≤ hs.length ∧ i = .int .i64 k ∧ anyB k (fun k => over (hd hs k)) = false ∧ Below w.heap.size w wr) (fun i _ => hs.length - (intOf i).toNat)
  case atStart => exact ⟨0, by omega, rfl, rfl, Below.refl _ _⟩
  case round =>
    obtain ⟨k, hk, rfl, hB, hbel⟩ := hrel
    have HB := Lib.hid hB
    clear hB
    by_cases hlt : k < hs.length
    · have hbz := hbel.size
      have d1 := (hbel.cell (p := ⟨b, k, none⟩) hb).trans (hc k hlt)
      have hn2 := (hg.facts _ (hd_mem hlt)).len
      have Hc := Lib.hid hc
      clear hc
      cases e1 : decide ((64 : Int) < (hd hs k).l.length)
      · go_wp2_with fail
        refine (lam_any _ _ _ _ hn2).mono ?_
        rintro e w' ⟨rfl, rfl⟩
        go_wp2
        go_roundw
        case rel => exact ⟨k + 1, by omega, by go_num, (by rw [anyB_succ, HB.out]; exact e1), by repeat (first | exact Below.refl _ _ | refine below_dN ?_ _ | refine Below.drew ?_ | refine Below.alloc ?_ (by first | omega | (simp; done) | (simp; omega)) _ | refine Below.setCell ?_ (by first | omega | (simp; done) | (simp; omega)) _ | refine below_step (by assumption) (by first | omega | (simp; done) | (simp; omega)) ?_)⟩
        case measure => simp [intOf]; omega
      · go_wp2_with fail
        refine (lam_any _ _ _ _ hn2).mono ?_
        rintro e w' ⟨rfl, rfl⟩
        go_wp2
        go_ret
        refine ⟨⟨_, rfl, ?_⟩, by repeat (first | exact Below.refl _ _ | refine below_dN ?_ _ | refine Below.drew ?_ | refine Below.alloc ?_ (by first | omega | (simp; done) | (simp; omega)) _ | refine Below.setCell ?_ (by first | omega | (simp; done) | (simp; omega)) _ | refine below_step (by assumption) (by first | omega | (simp; done) | (simp; omega)) ?_)⟩
        rw [anyB_true.2 ⟨k, hlt, e1⟩]
        simp
    · go_wp2
      go_ret
      refine ⟨⟨_, rfl, ?_⟩, by repeat (first | exact Below.refl _ _ | refine below_dN ?_ _ | refine Below.drew ?_ | refine Below.alloc ?_ (by first | omega | (simp; done) | (simp; omega)) _ | refine Below.setCell ?_ (by first | omega | (simp; done) | (simp; omega)) _ | refine below_step (by assumption) (by first | omega | (simp; done) | (simp; omega)) ?_)⟩
      rw [show hs.length = k by omega, HB.out]
      rfl

set_option maxHeartbeats 1000000 in
theorem containsf_any (w0 : World) (v : Value) (cs : List (List (Int × Int))) (hs : List Hd) (w : World) (hg : Gath w0 w v cs hs) (hl : hs.length ≤ 300000) (hn : 0 < hs.length) :
    Calls Tryd.prog 41 #[v, .func (.func 42) #[] #[]] w fun e w' => e = .returned (.bool (anyB hs.length (fun k => over (hd hs k)))) ∧ Below w.heap.size w w' := by
  have k1 := fun w1 (hb : Below w.heap.size w w1) => indexf_any w0 v cs hs w1 (hg.keep hb) hl hn
  go_enter Tryd.func41, Tryd.ntmps41
  go_wp2_with fail
  refine (k1 _ (by repeat (first | exact Below.refl _ _ | refine below_dN ?_ _ | refine Below.drew ?_ | refine Below.alloc ?_ (by first | omega | (simp; done) | (simp; omega)) _ | refine Below.setCell ?_ (by first | omega | (simp; done) | (simp; omega)) _ | refine below_step (by assumption) (by first | omega | (simp; done) | (simp; omega)) ?_))).mono ?_
  rintro e w1 ⟨⟨i, rfl, hi⟩, hb1⟩
  have Hi := Lib.hid hi
  clear hi
  go_wp2
  go_ret
  exact ⟨bool_ret Hi.out, by repeat (first | exact Below.refl _ _ | refine below_dN ?_ _ | refine Below.drew ?_ | refine Below.alloc ?_ (by first | omega | (simp; done) | (simp; omega)) _ | refine Below.setCell ?_ (by first | omega | (simp; done) | (simp; omega)) _ | refine below_step (by assumption) (by first | omega | (simp; done) | (simp; omega)) ?_)⟩

def ovl (l : List (Int × Int)) : Bool := decide ((64 : Int) < l.length)
theorem over_any (hs : List Hd) : anyB hs.length (fun k => over (hd hs k)) = (hs.map Hd.l).any ovl := by
  rw [Bool.eq_iff_iff, anyB_true, List.any_map, List.any_eq_true]
  constructor
  · rintro ⟨k, hk, h⟩; exact ⟨hd hs k, hd_mem hk, h⟩
  · rintro ⟨x, hx, h⟩
    obtain ⟨k, hk, rfl⟩ := List.mem_iff_getElem.1 hx
    exact ⟨k, hk, by show ovl (hd hs k).l = true; unfold hd; simpa [List.getD, List.getElem?_eq_getElem hk] using h⟩
theorem lgO_any (o : Opr) (h : o.effs.length ≤ 64) : lgO o = (cndO o o.effs.length).any ovl := by
  unfold lgO cndO
  rw [show decide ((64 : Int) < o.effs.length) = false by simp; omega, Bool.or_false, List.any_cons, List.any_map]
  rfl
theorem lg_any (t : Tsk) (e1 : decide ((64 : Int) < t.vars.length) = false) (e2 : decide ((4096 : Int) < t.ops.length) = false) (he : ∀ k, k < t.ops.length → (opr t.ops k).effs.length ≤ 64) : lgT t = (cnds t t.ops.length).any ovl := by
  unfold lgT cnds
  rw [e1, e2, List.any_cons, List.any_flatMap, Bool.false_or, Bool.false_or]
  congr 1
  rw [Bool.eq_iff_iff, anyB_true, List.any_eq_true]
  constructor
  · rintro ⟨k, hk, h⟩; exact ⟨k, List.mem_range.2 hk, by rw [← lgO_any _ (he k hk)]; exact h⟩
  · rintro ⟨k, hk, h⟩
    rw [List.mem_range] at hk
    exact ⟨k, hk, by rw [lgO_any _ (he k hk)]; exact h⟩

set_option maxHeartbeats 1000000 in
theorem tlarge_any (t : Tsk) (p : Lies) (w : World) (ht : TaskAt w w.heap.size t p) :
    Calls Tryd.prog 30 #[TaskV t p] w fun e w' => e = .returned (.bool (lgT t)) ∧ Below w.heap.size w w' := by
  have k1 := fun w1 hm he (hb : Below w.heap.size w w1) => conditions_any t p w1 (ht.up hb) hm he
  obtain ⟨av, ai, ag, ao, cv, ci, cg, co⟩ := p
  unfold TaskV at *
  dsimp only at *
  have l1 := ht.vars.len
  have l2 := ht.init.len
  have l3 := ht.goal.len
  have l4 := ht.ops.len
  cases e1 : decide ((64 : Int) < t.vars.length)
  case true =>
    have Hf := Lib.hid (show lgT t = true by unfold lgT; rw [e1]; rfl)
    go_enter Tryd.func30, Tryd.ntmps30
    go_wp2
    go_ret
    exact ⟨bool_ret (by rw [Hf.out]), by repeat (first | exact Below.refl _ _ | refine below_dN ?_ _ | refine Below.drew ?_ | refine Below.alloc ?_ (by first | omega | (simp; done) | (simp; omega)) _ | refine Below.setCell ?_ (by first | omega | (simp; done) | (simp; omega)) _ | refine below_step (by assumption) (by first | omega | (simp; done) | (simp; omega)) ?_)⟩
  cases e2 : decide ((4096 : Int) < t.ops.length)
  case true =>
    have Hf := Lib.hid (show lgT t = true by unfold lgT; rw [e1, e2]; rfl)
    go_enter Tryd.func30, Tryd.ntmps30
    go_wp2
    go_ret
    exact ⟨bool_ret (by rw [Hf.out]), by repeat (first | exact Below.refl _ _ | refine below_dN ?_ _ | refine Below.drew ?_ | refine Below.alloc ?_ (by first | omega | (simp; done) | (simp; omega)) _ | refine Below.setCell ?_ (by first | omega | (simp; done) | (simp; omega)) _ | refine below_step (by assumption) (by first | omega | (simp; done) | (simp; omega)) ?_)⟩
  have hm : t.ops.length ≤ 4096 := by simp at e2; omega
  go_enter Tryd.func30, Tryd.ntmps30
  go_wp2
  go_loopw [18] (fun i wr => ∃ k : Nat, k ≤ t.ops.length ∧ i = .int .i64 k ∧ (∀ j, j < k → (opr t.ops j).effs.length ≤ 64) ∧ Boxed wr w.heap.size t ⟨av, ai, ag, ao, cv, ci, cg, co⟩ ∧ Below w.heap.size w wr) (fun i _ => t.ops.length - (intOf i).toNat)
  case atStart => exact ⟨0, by omega, rfl, fun j hj => absurd hj (by omega), by constructor <;> simp, by repeat (first | exact Below.refl _ _ | refine below_dN ?_ _ | refine Below.drew ?_ | refine Below.alloc ?_ (by first | omega | (simp; done) | (simp; omega)) _ | refine Below.setCell ?_ (by first | omega | (simp; done) | (simp; omega)) _ | refine below_step (by assumption) (by first | omega | (simp; done) | (simp; omega)) ?_)⟩
  case round =>
    obtain ⟨k, hk, rfl, he, hbox, hbel⟩ := hrel
    have He := Lib.hid he
    clear he
    have Hbox := Lib.hid hbox
    obtain ⟨z0, y0, y1, y2, y3⟩ := hbox
    dsimp only at y0 y1 y2 y3
    by_cases hlt : k < t.ops.length
    · obtain ⟨b, o, S, c, T, d, ea, hb, d0, q0, d1, d2, f2, d3, e3⟩ := ht.ops.at2 hbel hlt; (try dsimp only at ea); subst ea; have hbz := hbel.size; have g2 : b < wr.heap.size := (by omega); have j1 := f2.len; have j2 := e3.len
      cases e3 : decide ((64 : Int) < (opr t.ops k).effs.length)
      · go_wp2
        go_roundw
        case rel => exact ⟨k + 1, by omega, by go_num, fun j hj => by rcases Nat.lt_succ_iff_lt_or_eq.1 hj with h | rfl; exact He.out j h; simp at e3; omega, Hbox.out.up (by repeat (first | exact Below.refl _ _ | refine below_dN ?_ _ | refine Below.drew ?_ | refine Below.alloc ?_ (by first | omega | (simp; done) | (simp; omega)) _ | refine Below.setCell ?_ (by first | omega | (simp; done) | (simp; omega)) _ | refine below_step (by assumption) (by first | omega | (simp; done) | (simp; omega)) ?_)), by repeat (first | exact Below.refl _ _ | refine below_dN ?_ _ | refine Below.drew ?_ | refine Below.alloc ?_ (by first | omega | (simp; done) | (simp; omega)) _ | refine Below.setCell ?_ (by first | omega | (simp; done) | (simp; omega)) _ | refine below_step (by assumption) (by first | omega | (simp; done) | (simp; omega)) ?_)⟩
        case measure => simp [intOf]; omega
      · have Hf := Lib.hid (show lgT t = true by
          have h1 : anyB t.ops.length (fun k => lgO (opr t.ops k)) = true := anyB_true.2 ⟨k, hlt, by unfold lgO; rw [e3]; simp⟩
          unfold lgT; rw [h1, Bool.or_true])
        go_wp2
        go_ret
        exact ⟨bool_ret (by rw [Hf.out]), by repeat (first | exact Below.refl _ _ | refine below_dN ?_ _ | refine Below.drew ?_ | refine Below.alloc ?_ (by first | omega | (simp; done) | (simp; omega)) _ | refine Below.setCell ?_ (by first | omega | (simp; done) | (simp; omega)) _ | refine below_step (by assumption) (by first | omega | (simp; done) | (simp; omega)) ?_)⟩
    · obtain rfl : k = t.ops.length := by omega
      go_wp2_with fail
      refine (k1 _ hm He.out (by repeat (first | exact Below.refl _ _ | refine below_dN ?_ _ | refine Below.drew ?_ | refine Below.alloc ?_ (by first | omega | (simp; done) | (simp; omega)) _ | refine Below.setCell ?_ (by first | omega | (simp; done) | (simp; omega)) _ | refine below_step (by assumption) (by first | omega | (simp; done) | (simp; omega)) ?_))).mono ?_
      rintro e w1 ⟨⟨v, hs, rfl, hg, hl⟩, hb1⟩
      have Hl := Lib.hid (show lgT t = anyB hs.length (fun k => over (hd hs k)) by rw [over_any, hg.lists]; exact lg_any t e1 e2 He.out)
      have hn : 0 < hs.length := by have h := congrArg List.length hg.lists; rw [List.length_map] at h; unfold cnds at h; rw [List.length_cons] at h; omega
      go_wp2_with fail
      refine (containsf_any _ v _ hs _ (hg.keep (by repeat (first | exact Below.refl _ _ | refine below_dN ?_ _ | refine Below.drew ?_ | refine Below.alloc ?_ (by first | omega | (simp; done) | (simp; omega)) _ | refine Below.setCell ?_ (by first | omega | (simp; done) | (simp; omega)) _ | refine below_step (by assumption) (by first | omega | (simp; done) | (simp; omega)) ?_))) (by omega) hn).mono ?_
      rintro e w2 ⟨rfl, hb2⟩
      go_wp2
      go_ret
      have hy0 := hbel.size
      have hy1 := hb1.size
      exact ⟨bool_ret (by rw [Hl.out]), by repeat (first | exact Below.refl _ _ | refine below_dN ?_ _ | refine Below.drew ?_ | refine Below.alloc ?_ (by first | omega | (simp; done) | (simp; omega)) _ | refine Below.setCell ?_ (by first | omega | (simp; done) | (simp; omega)) _ | refine below_step (by assumption) (by first | omega | (simp; done) | (simp; omega)) ?_)⟩

end Go.Proofs.YtkeelkpmajmjmaaDoor

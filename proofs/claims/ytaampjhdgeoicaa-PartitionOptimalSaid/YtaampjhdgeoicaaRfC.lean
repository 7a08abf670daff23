/- The reference's zero, one, ratio and Check. -/
import Derived.Test.YtaampjhdgeoicaaRfB
import Derived.Test.YtaampjhdgeoicaaSxUl
namespace Go.Proofs.Ytaampjhdgeoicaa
set_option linter.unusedSimpArgs false
set_option linter.unusedVariables false
open Go Go.RowKit
set_option linter.unusedVariables false

theorem rz_any (w : World) : Calls Try.prog 34 #[] w fun e w' => e = .returned (.agg #[.int .i64 0, .int .i64 1]) ∧ Below w.heap.size w w' := by
  go_enter Try.func34, Try.ntmps34
  go_wp2
  exact bodyPost_ret (v := .agg #[.int .i64 0, .int .i64 1]) (by simp [results, Try.results34, go_sem]) rfl ⟨rfl, by repeat (first | exact Below.refl _ _ | refine below_dN ?_ _ | refine Below.drew ?_ | refine Below.alloc ?_ (by first | omega | (simp; done) | (simp; omega)) _ | refine Below.setCell ?_ (by first | omega | (simp; done) | (simp; omega)) _ | refine below_step (by assumption) (by first | omega | (simp; done) | (simp; omega)) ?_)⟩
theorem one_any (w : World) : Calls Try.prog 59 #[] w fun e w' => e = .returned (.agg #[.int .i64 1, .int .i64 1]) ∧ Below w.heap.size w w' := by
  go_enter Try.func59, Try.ntmps59
  go_wp2
  exact bodyPost_ret (v := .agg #[.int .i64 1, .int .i64 1]) (by simp [results, Try.results59, go_sem]) rfl ⟨rfl, by repeat (first | exact Below.refl _ _ | refine below_dN ?_ _ | refine Below.drew ?_ | refine Below.alloc ?_ (by first | omega | (simp; done) | (simp; omega)) _ | refine Below.setCell ?_ (by first | omega | (simp; done) | (simp; omega)) _ | refine below_step (by assumption) (by first | omega | (simp; done) | (simp; omega)) ?_)⟩

def RtRet (x y : Rat) (e : Ending) : Prop := (¬ (Rep x ∧ Rep y) ∧ e = .returned (.tuple #[.int .i64 0, .bool false])) ∨ (Rep x ∧ Rep y ∧ e = .returned (.tuple #[.int .i64 (if x < y then -1 else if y < x then 1 else 0), .bool true]))

set_option maxHeartbeats 2000000 in
theorem ratio_any (a p b q : Rat) (w : World) (ha : Rep a) (hp : Rep p) (hb : Rep b) (hq : Rep q) (p0 : p ≠ 0) (q0 : q ≠ 0) :
    Calls Try.prog 60 #[.agg #[.int .i64 a.num, .int .i64 a.den], .agg #[.int .i64 p.num, .int .i64 p.den], .agg #[.int .i64 b.num, .int .i64 b.den], .agg #[.int .i64 q.num, .int .i64 q.den]] w fun e w' => RtRet (a / p) (b / q) e ∧ Below w.heap.size w w' := by
  have k1 := fun W => rdiv_any a.num a.den p.num p.den W
  rw [divF_rep ha hp p0] at k1
  have k2 := fun W => rdiv_any b.num b.den q.num q.den W
  rw [divF_rep hb hq q0] at k2
  unfold RetFC at k1 k2
  obtain ⟨an, han⟩ : ∃ an, an = a.num := ⟨_, rfl⟩
  obtain ⟨ad, had⟩ : ∃ ad, ad = (a.den : Int) := ⟨_, rfl⟩
  obtain ⟨pn, hpn⟩ : ∃ pn, pn = p.num := ⟨_, rfl⟩
  obtain ⟨pd, hpd⟩ : ∃ pd, pd = (p.den : Int) := ⟨_, rfl⟩
  obtain ⟨bn, hbn⟩ : ∃ bn, bn = b.num := ⟨_, rfl⟩
  obtain ⟨bd, hbd⟩ : ∃ bd, bd = (b.den : Int) := ⟨_, rfl⟩
  obtain ⟨qn, hqn⟩ : ∃ qn, qn = q.num := ⟨_, rfl⟩
  obtain ⟨qd, hqd⟩ : ∃ qd, qd = (q.den : Int) := ⟨_, rfl⟩
  rw [← han, ← had, ← hpn, ← hpd] at k1
  rw [← hbn, ← hbd, ← hqn, ← hqd] at k2
  rw [← han, ← had, ← hpn, ← hpd, ← hbn, ← hbd, ← hqn, ← hqd]
  clear han had hpn hpd hbn hbd hqn hqd ha hp hb hq p0 q0
  obtain ⟨x, hx⟩ : ∃ x, x = a / p := ⟨_, rfl⟩
  obtain ⟨y, hy⟩ : ∃ y, y = b / q := ⟨_, rfl⟩
  rw [← hx] at k1 ⊢
  rw [← hy] at k2 ⊢
  clear hx hy
  by_cases h1 : Rep x
  case neg =>
    rw [not_rep h1] at k1
    have K1 := Lib.hid k1
    have HR := Lib.hid (show RtRet x y (.returned (.tuple #[.int .i64 0, .bool false])) from .inl ⟨fun h => h1 h.1, rfl⟩)
    clear k1 k2 h1
    go_enter Try.func60, Try.ntmps60
    go_wp2_with fail; refine (K1.out _).mono ?_; rintro e w1 ⟨rfl, hb1⟩; obtain ⟨hc1, hf1, hz1, hlt1, hle1⟩ := cellsIf hb1 (by (try simp); exact rfl); (try have : w.heap.size < w1.heap.size := (by omega)); (try have : w.heap.size < w1.heap.size + 1 := (by omega)); (try have : w.heap.size < w1.heap.size + 1 + 1 := (by omega)); (try have : w.heap.size + 1 < w1.heap.size := (by omega)); (try have : w.heap.size + 1 < w1.heap.size + 1 := (by omega)); (try have : w.heap.size + 1 < w1.heap.size + 1 + 1 := (by omega)); (try have : w.heap.size + 1 + 1 < w1.heap.size := (by omega)); (try have : w.heap.size + 1 + 1 < w1.heap.size + 1 := (by omega)); (try have : w.heap.size + 1 + 1 < w1.heap.size + 1 + 1 := (by omega))
    go_wp2
    refine bodyPost_ret (v := .tuple #[.int .i64 0, .bool false]) (by simp [results, Try.results60, go_sem, ↓IntWalk.iteOmega, *]) rfl ⟨HR.out, ?_⟩
    repeat (first | exact Below.refl _ _ | refine below_dN ?_ _ | refine Below.drew ?_ | refine Below.alloc ?_ (by first | omega | (simp; done) | (simp; omega)) _ | refine Below.setCell ?_ (by first | omega | (simp; done) | (simp; omega)) _ | refine below_step (by assumption) (by first | omega | (simp; done) | (simp; omega)) ?_)
  case pos =>
    rw [rep_toF h1] at k1
    by_cases h2 : Rep y
    case neg =>
      rw [not_rep h2] at k2
      have HR := Lib.hid (show RtRet x y (.returned (.tuple #[.int .i64 0, .bool false])) from .inl ⟨fun h => h2 h.2, rfl⟩)
      obtain ⟨xn, hxn⟩ : ∃ xn, xn = x.num := ⟨_, rfl⟩
      obtain ⟨xd, hxd⟩ : ∃ xd, xd = (x.den : Int) := ⟨_, rfl⟩
      rw [← hxn, ← hxd] at k1
      have K1 := Lib.hid k1
      have K2 := Lib.hid k2
      clear k1 k2 h1 h2 hxn hxd
      go_enter Try.func60, Try.ntmps60
      go_wp2_with fail; refine (K1.out _).mono ?_; rintro e w1 ⟨rfl, hb1⟩; obtain ⟨hc1, hf1, hz1, hlt1, hle1⟩ := cellsIf hb1 (by (try simp); exact rfl); (try have : w.heap.size < w1.heap.size := (by omega)); (try have : w.heap.size < w1.heap.size + 1 := (by omega)); (try have : w.heap.size < w1.heap.size + 1 + 1 := (by omega)); (try have : w.heap.size + 1 < w1.heap.size := (by omega)); (try have : w.heap.size + 1 < w1.heap.size + 1 := (by omega)); (try have : w.heap.size + 1 < w1.heap.size + 1 + 1 := (by omega)); (try have : w.heap.size + 1 + 1 < w1.heap.size := (by omega)); (try have : w.heap.size + 1 + 1 < w1.heap.size + 1 := (by omega)); (try have : w.heap.size + 1 + 1 < w1.heap.size + 1 + 1 := (by omega))
      go_wp2_with fail; refine (K2.out _).mono ?_; rintro e w2 ⟨rfl, hb2⟩; obtain ⟨hc2, hf2, hz2, hlt2, hle2⟩ := cellsIf hb2 (by (try simp); exact rfl); (try have : w.heap.size < w2.heap.size := (by omega)); (try have : w.heap.size < w2.heap.size + 1 := (by omega)); (try have : w.heap.size < w2.heap.size + 1 + 1 := (by omega)); (try have : w.heap.size + 1 < w2.heap.size := (by omega)); (try have : w.heap.size + 1 < w2.heap.size + 1 := (by omega)); (try have : w.heap.size + 1 < w2.heap.size + 1 + 1 := (by omega)); (try have : w.heap.size + 1 + 1 < w2.heap.size := (by omega)); (try have : w.heap.size + 1 + 1 < w2.heap.size + 1 := (by omega)); (try have : w.heap.size + 1 + 1 < w2.heap.size + 1 + 1 := (by omega)); (try have : w1.heap.size < w2.heap.size := (by omega)); (try have : w1.heap.size < w2.heap.size + 1 := (by omega)); (try have : w1.heap.size < w2.heap.size + 1 + 1 := (by omega)); (try have : w1.heap.size + 1 < w2.heap.size := (by omega)); (try have : w1.heap.size + 1 < w2.heap.size + 1 := (by omega)); (try have : w1.heap.size + 1 < w2.heap.size + 1 + 1 := (by omega)); (try have : w1.heap.size + 1 + 1 < w2.heap.size := (by omega)); (try have : w1.heap.size + 1 + 1 < w2.heap.size + 1 := (by omega)); (try have : w1.heap.size + 1 + 1 < w2.heap.size + 1 + 1 := (by omega))
      go_wp2
      refine bodyPost_ret (v := .tuple #[.int .i64 0, .bool false]) (by simp [results, Try.results60, go_sem, ↓IntWalk.iteOmega, *]) rfl ⟨HR.out, ?_⟩
      repeat (first | exact Below.refl _ _ | refine below_dN ?_ _ | refine Below.drew ?_ | refine Below.alloc ?_ (by first | omega | (simp; done) | (simp; omega)) _ | refine Below.setCell ?_ (by first | omega | (simp; done) | (simp; omega)) _ | refine below_step (by assumption) (by first | omega | (simp; done) | (simp; omega)) ?_)
    case pos =>
      rw [rep_toF h2] at k2
      have k3 := fun W => rcmp_any x.num x.den y.num y.den W
      rw [cmp_rat h1 h2] at k3
      have HR := Lib.hid (show RtRet x y (.returned (.tuple #[.int .i64 (if x < y then -1 else if y < x then 1 else 0), .bool true])) from .inr ⟨h1, h2, rfl⟩)
      obtain ⟨xn, hxn⟩ : ∃ xn, xn = x.num := ⟨_, rfl⟩
      obtain ⟨xd, hxd⟩ : ∃ xd, xd = (x.den : Int) := ⟨_, rfl⟩
      obtain ⟨yn, hyn⟩ : ∃ yn, yn = y.num := ⟨_, rfl⟩
      obtain ⟨yd, hyd⟩ : ∃ yd, yd = (y.den : Int) := ⟨_, rfl⟩
      rw [← hxn, ← hxd] at k1 k3
      rw [← hyn, ← hyd] at k2 k3
      obtain ⟨r, hr⟩ : ∃ r : Int, r = if x < y then -1 else if y < x then 1 else 0 := ⟨_, rfl⟩
      rw [← hr] at k3 HR
      have K1 := Lib.hid k1
      have K2 := Lib.hid k2
      have K3 := Lib.hid k3
      clear k1 k2 k3 h1 h2 hxn hxd hyn hyd hr
      go_enter Try.func60, Try.ntmps60
      go_wp2_with fail; refine (K1.out _).mono ?_; rintro e w1 ⟨rfl, hb1⟩; obtain ⟨hc1, hf1, hz1, hlt1, hle1⟩ := cellsIf hb1 (by (try simp); exact rfl); (try have : w.heap.size < w1.heap.size := (by omega)); (try have : w.heap.size < w1.heap.size + 1 := (by omega)); (try have : w.heap.size < w1.heap.size + 1 + 1 := (by omega)); (try have : w.heap.size + 1 < w1.heap.size := (by omega)); (try have : w.heap.size + 1 < w1.heap.size + 1 := (by omega)); (try have : w.heap.size + 1 < w1.heap.size + 1 + 1 := (by omega)); (try have : w.heap.size + 1 + 1 < w1.heap.size := (by omega)); (try have : w.heap.size + 1 + 1 < w1.heap.size + 1 := (by omega)); (try have : w.heap.size + 1 + 1 < w1.heap.size + 1 + 1 := (by omega))
      go_wp2_with fail; refine (K2.out _).mono ?_; rintro e w2 ⟨rfl, hb2⟩; obtain ⟨hc2, hf2, hz2, hlt2, hle2⟩ := cellsIf hb2 (by (try simp); exact rfl); (try have : w.heap.size < w2.heap.size := (by omega)); (try have : w.heap.size < w2.heap.size + 1 := (by omega)); (try have : w.heap.size < w2.heap.size + 1 + 1 := (by omega)); (try have : w.heap.size + 1 < w2.heap.size := (by omega)); (try have : w.heap.size + 1 < w2.heap.size + 1 := (by omega)); (try have : w.heap.size + 1 < w2.heap.size + 1 + 1 := (by omega)); (try have : w.heap.size + 1 + 1 < w2.heap.size := (by omega)); (try have : w.heap.size + 1 + 1 < w2.heap.size + 1 := (by omega)); (try have : w.heap.size + 1 + 1 < w2.heap.size + 1 + 1 := (by omega)); (try have : w1.heap.size < w2.heap.size := (by omega)); (try have : w1.heap.size < w2.heap.size + 1 := (by omega)); (try have : w1.heap.size < w2.heap.size + 1 + 1 := (by omega)); (try have : w1.heap.size + 1 < w2.heap.size := (by omega)); (try have : w1.heap.size + 1 < w2.heap.size + 1 := (by omega)); (try have : w1.heap.size + 1 < w2.heap.size + 1 + 1 := (by omega)); (try have : w1.heap.size + 1 + 1 < w2.heap.size := (by omega)); (try have : w1.heap.size + 1 + 1 < w2.heap.size + 1 := (by omega)); (try have : w1.heap.size + 1 + 1 < w2.heap.size + 1 + 1 := (by omega))
      go_wp2_with fail; refine (K3.out _).mono ?_; rintro e w3 ⟨rfl, hb3⟩; obtain ⟨hc3, hf3, hz3, hlt3, hle3⟩ := cellsIf hb3 (by (try simp); exact rfl); (try have : w.heap.size < w3.heap.size := (by omega)); (try have : w.heap.size < w3.heap.size + 1 := (by omega)); (try have : w.heap.size < w3.heap.size + 1 + 1 := (by omega)); (try have : w.heap.size + 1 < w3.heap.size := (by omega)); (try have : w.heap.size + 1 < w3.heap.size + 1 := (by omega)); (try have : w.heap.size + 1 < w3.heap.size + 1 + 1 := (by omega)); (try have : w.heap.size + 1 + 1 < w3.heap.size := (by omega)); (try have : w.heap.size + 1 + 1 < w3.heap.size + 1 := (by omega)); (try have : w.heap.size + 1 + 1 < w3.heap.size + 1 + 1 := (by omega)); (try have : w1.heap.size < w3.heap.size := (by omega)); (try have : w1.heap.size < w3.heap.size + 1 := (by omega)); (try have : w1.heap.size < w3.heap.size + 1 + 1 := (by omega)); (try have : w1.heap.size + 1 < w3.heap.size := (by omega)); (try have : w1.heap.size + 1 < w3.heap.size + 1 := (by omega)); (try have : w1.heap.size + 1 < w3.heap.size + 1 + 1 := (by omega)); (try have : w1.heap.size + 1 + 1 < w3.heap.size := (by omega)); (try have : w1.heap.size + 1 + 1 < w3.heap.size + 1 := (by omega)); (try have : w1.heap.size + 1 + 1 < w3.heap.size + 1 + 1 := (by omega)); (try have : w2.heap.size < w3.heap.size := (by omega)); (try have : w2.heap.size < w3.heap.size + 1 := (by omega)); (try have : w2.heap.size < w3.heap.size + 1 + 1 := (by omega)); (try have : w2.heap.size + 1 < w3.heap.size := (by omega)); (try have : w2.heap.size + 1 < w3.heap.size + 1 := (by omega)); (try have : w2.heap.size + 1 < w3.heap.size + 1 + 1 := (by omega)); (try have : w2.heap.size + 1 + 1 < w3.heap.size := (by omega)); (try have : w2.heap.size + 1 + 1 < w3.heap.size + 1 := (by omega)); (try have : w2.heap.size + 1 + 1 < w3.heap.size + 1 + 1 := (by omega))
      go_wp2
      refine bodyPost_ret (v := .tuple #[.int .i64 r, .bool true]) (by simp [results, Try.results60, go_sem, ↓IntWalk.iteOmega, *]) rfl ⟨HR.out, ?_⟩
      repeat (first | exact Below.refl _ _ | refine below_dN ?_ _ | refine Below.drew ?_ | refine Below.alloc ?_ (by first | omega | (simp; done) | (simp; omega)) _ | refine Below.setCell ?_ (by first | omega | (simp; done) | (simp; omega)) _ | refine below_step (by assumption) (by first | omega | (simp; done) | (simp; omega)) ?_)

end Go.Proofs.Ytaampjhdgeoicaa

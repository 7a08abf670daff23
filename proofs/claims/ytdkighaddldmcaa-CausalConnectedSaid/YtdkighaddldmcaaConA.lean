/- causal.Connected. -/
import Derived.Test.YtdkighaddldmcaaConP
import Derived.Test.YtdkighaddldmcaaCauA
import Derived.Test.YtdkighaddldmcaaKb
import Derived.Test.YtdkighaddldmcaaTaskJ
import Derived.LoopTactic
namespace Go.Proofs.Ytdkighaddldmcaa
set_option linter.unusedSimpArgs false
set_option linter.unusedVariables false
open Go Go.RowKit
set_option linter.unusedVariables false

theorem IntsAt.atI {w w' : World} {B : Nat} {A : Option Addr} {l : List Int} (h : IntsAt w B A l) (hb : Below B w w') {k : Nat} (hk : k < l.length) : ∃ b off, A = some ⟨b, off, none⟩ ∧ b < B ∧ w'.cell? ⟨b, off + k, none⟩ = some (.int .i64 (nth l k)) := by
  obtain ⟨b, off, e, hlt, hc⟩ := h.2 (by omega)
  exact ⟨b, off, e, hlt, (hb.cell hlt).trans (hc k hk)⟩
def inI (l : List Int) (o : Int) (k : Nat) : Bool := anyB k fun i => nth l i == o
set_option maxRecDepth 4000 in
set_option maxHeartbeats 1000000 in
theorem indexI_any (l : List Int) (S : Option Addr) (c : Nat) (o : Int) (w : World) (h : IntsAt w w.heap.size S l) :
    Calls Try.prog 46 #[.slice S l.length c, .int .i64 o] w fun e w' => (∃ i, e = .returned (.int .i64 i) ∧ decide (0 ≤ i) = inI l o l.length) ∧ Below w.heap.size w w' := by
  have l1 := h.len
  go_enter Try.func46, Try.ntmps46
  go_wp2
  go_loopw [8] (fun i wr => ∃ k : Nat, k ≤ l.length ∧ i = .int .i64 k ∧ inI l o k = false ∧ Below w.heap.size w wr) (fun i _ => l.length - (intOf i).toNat)
  case atStart => exact ⟨0, by omega, rfl, rfl, Below.refl _ _⟩
  case round =>
    obtain ⟨k, hk, rfl, hB, hbel⟩ := hrel
    have HB := Lib.hid hB
    clear hB
    by_cases hlt : k < l.length
    · obtain ⟨b, o', ea, hb, d1⟩ := h.atI hbel hlt
      subst ea
      have hbz := hbel.size
      have x0 : (0 : Int) ≤ (k : Int) := by omega
      have x1 : (k : Int) < (l.length : Int) := by omega
      by_cases q1 : o = nth l k
      · have e1 : (o == nth l k) = true := by simpa using q1
        have He := Lib.hid (show inI l o l.length = true from anyB_true.2 ⟨k, hlt, by simp [q1]⟩)
        clear q1
        go_wp2
        go_ret
        exact ⟨⟨_, rfl, by rw [He.out]; simp⟩, hbel⟩
      · have e1 : (o == nth l k) = false := by simpa using q1
        have He := Lib.hid (show (nth l k == o) = false by simp; omega)
        clear q1
        go_wp2
        go_roundw
        case rel => exact ⟨k + 1, by omega, by go_num, (by show anyB (k + 1) _ = false; rw [anyB_succ, He.out, Bool.or_false]; exact HB.out), hbel⟩
        case measure => simp [intOf]; omega
    · obtain rfl : k = l.length := by omega
      go_wp2
      go_ret
      exact ⟨⟨_, rfl, by rw [HB.out]; rfl⟩, hbel⟩
set_option maxHeartbeats 1000000 in
theorem containsI_any (l : List Int) (S : Option Addr) (c : Nat) (o : Int) (w : World) (h : IntsAt w w.heap.size S l) :
    Calls Try.prog 31 #[.slice S l.length c, .int .i64 o] w fun e w' => e = .returned (.bool (inI l o l.length)) ∧ Below w.heap.size w w' := by
  have k1 := fun w1 (hb : Below w.heap.size w w1) => indexI_any l S c o w1 (h.up hb)
  go_enter Try.func31, Try.ntmps31
  go_wp2_with fail
  refine (k1 _ (by repeat (first | exact Below.refl _ _ | refine below_dN ?_ _ | refine Below.drew ?_ | refine Below.alloc ?_ (by first | omega | (simp; done) | (simp; omega)) _ | refine Below.setCell ?_ (by first | omega | (simp; done) | (simp; omega)) _ | refine below_step (by assumption) (by first | omega | (simp; done) | (simp; omega)) ?_))).mono ?_
  rintro e w1 ⟨⟨i, rfl, hi⟩, hb1⟩
  have Hi := Lib.hid hi
  clear hi
  go_wp2
  go_ret
  exact ⟨bool_ret Hi.out, by repeat (first | exact Below.refl _ _ | refine below_dN ?_ _ | refine Below.drew ?_ | refine Below.alloc ?_ (by first | omega | (simp; done) | (simp; omega)) _ | refine Below.setCell ?_ (by first | omega | (simp; done) | (simp; omega)) _ | refine below_step (by assumption) (by first | omega | (simp; done) | (simp; omega)) ?_)⟩

theorem own_got1' {w : World} {B : Nat} {v : Value} {l : List Int} {n : Nat} (h : w.ownsRow B 3 1 v n (ic l)) (hn : n = l.length) (hl : l.length ≤ 140737488355328) : ∃ A c, v = .slice A l.length c ∧ (A = none → c = 0) ∧ IntsAt w w.heap.size A l := by
  subst hn
  rcases own_view h with ⟨rfl, h0⟩ | ⟨g, cap, rfl, hg1, hg2⟩
  · exact ⟨none, 0, by rw [h0], fun _ => rfl, hl, fun hn => absurd hn (by omega)⟩
  · exact ⟨some ⟨g, 0, none⟩, cap, rfl, (fun e => nomatch e), hl, fun _ => ⟨g, 0, rfl, hg2, fun k hk => by have := own_cell h (ic_get hk); simpa using this⟩⟩

set_option maxRecDepth 100000 in
set_option maxHeartbeats 8000000 in
theorem conn_no (t : Tsk) (p : Lies) (P : List Int) (A : Option Addr) (c : Nat) (w : World) (ht : TaskAt w w.heap.size t p) (hP : IntsAt w w.heap.size A P) (e0 : chkC t ≠ 0) :
    Calls Try.prog 14 #[TaskV t p, .slice A P.length c] w fun e w' => e = .returned (.tuple #[.bool false, .iface 72 (.int .i64 (chkC t))]) ∧ Below w.heap.size w w' := by
  have k1 := fun w1 (hb : Below w.heap.size w w1) => tcheck_any t p w1 (ht.up hb)
  have l1 := hP.len
  obtain ⟨av, ai, ag, ao, cv, ci, cg, co⟩ := p
  unfold TaskV at *
  dsimp only at *
  have He := Lib.hid (show erV (chkC t) = .iface 72 (.int .i64 (chkC t)) by unfold erV; rw [if_neg e0])
  simp only [He.out] at k1
  clear e0
  go_enter Try.func14, Try.ntmps14
  go_wp2_with fail; refine (k1 _ (by repeat (first | exact Below.refl _ _ | refine below_dN ?_ _ | refine Below.drew ?_ | refine Below.alloc ?_ (by first | omega | (simp; done) | (simp; omega)) _ | refine Below.setCell ?_ (by first | omega | (simp; done) | (simp; omega)) _ | refine below_step (by assumption) (by first | omega | (simp; done) | (simp; omega)) ?_))).mono ?_; rintro e w1 ⟨rfl, hb1⟩; obtain ⟨hc1, hf1, hz1, hlt1, hle1⟩ := cellsIf hb1 (by (try simp); exact rfl); (try have : w.heap.size < w1.heap.size := (by omega)); (try have : w.heap.size < w1.heap.size + 1 := (by omega)); (try have : w.heap.size < w1.heap.size + 1 + 1 := (by omega)); (try have : w.heap.size + 1 < w1.heap.size := (by omega)); (try have : w.heap.size + 1 < w1.heap.size + 1 := (by omega)); (try have : w.heap.size + 1 < w1.heap.size + 1 + 1 := (by omega)); (try have : w.heap.size + 1 + 1 < w1.heap.size := (by omega)); (try have : w.heap.size + 1 + 1 < w1.heap.size + 1 := (by omega)); (try have : w.heap.size + 1 + 1 < w1.heap.size + 1 + 1 := (by omega))
  go_wp2
  refine bodyPost_ret (v := .tuple #[.bool false, .iface 72 (.int .i64 (chkC t))]) (by simp [results, Try.results14, go_sem]) rfl ⟨rfl, by repeat (first | exact Below.refl _ _ | refine below_dN ?_ _ | refine Below.drew ?_ | refine Below.alloc ?_ (by first | omega | (simp; done) | (simp; omega)) _ | refine Below.setCell ?_ (by first | omega | (simp; done) | (simp; omega)) _ | refine below_step (by assumption) (by first | omega | (simp; done) | (simp; omega)) ?_)⟩

set_option maxRecDepth 100000 in
set_option maxHeartbeats 8000000 in
theorem conn_bad (t : Tsk) (p : Lies) (P : List Int) (A : Option Addr) (c : Nat) (w : World) (ht : TaskAt w w.heap.size t p) (hP : IntsAt w w.heap.size A P) (e0 : chkC t = 0) (hn : ¬ PaP t.vars.length P) :
    Calls Try.prog 14 #[TaskV t p, .slice A P.length c] w fun e w' => e = .returned (.tuple #[.bool false, .iface 72 (.int .i64 2)]) ∧ Below w.heap.size w w' := by
  have k1 := fun w1 (hb : Below w.heap.size w w1) => tcheck_any t p w1 (ht.up hb)
  have l1 := hP.len
  have hr := right_of e0
  have HE := Lib.hid hn
  clear hn
  obtain ⟨av, ai, ag, ao, cv, ci, cg, co⟩ := p
  unfold TaskV at *
  dsimp only at *
  simp only [e0, erV_0] at k1
  clear e0
  have n64 := hr.nv
  have HR := Lib.hid hr
  clear hr
  go_enter Try.func14, Try.ntmps14
  go_wp2_with fail; refine (k1 _ (by repeat (first | exact Below.refl _ _ | refine below_dN ?_ _ | refine Below.drew ?_ | refine Below.alloc ?_ (by first | omega | (simp; done) | (simp; omega)) _ | refine Below.setCell ?_ (by first | omega | (simp; done) | (simp; omega)) _ | refine below_step (by assumption) (by first | omega | (simp; done) | (simp; omega)) ?_))).mono ?_; rintro e w1 ⟨rfl, hb1⟩; obtain ⟨hc1, hf1, hz1, hlt1, hle1⟩ := cellsIf hb1 (by (try simp); exact rfl); (try have : w.heap.size < w1.heap.size := (by omega)); (try have : w.heap.size < w1.heap.size + 1 := (by omega)); (try have : w.heap.size < w1.heap.size + 1 + 1 := (by omega)); (try have : w.heap.size + 1 < w1.heap.size := (by omega)); (try have : w.heap.size + 1 < w1.heap.size + 1 := (by omega)); (try have : w.heap.size + 1 < w1.heap.size + 1 + 1 := (by omega)); (try have : w.heap.size + 1 + 1 < w1.heap.size := (by omega)); (try have : w.heap.size + 1 + 1 < w1.heap.size + 1 := (by omega)); (try have : w.heap.size + 1 + 1 < w1.heap.size + 1 + 1 := (by omega))
  have hbx1 : Boxed w1 w.heap.size t ⟨av, ai, ag, ao, cv, ci, cg, co⟩ := Boxed.up (by constructor <;> simp) hb1
  have hbw1 : Below w.heap.size w w1 := by repeat (first | exact Below.refl _ _ | refine below_dN ?_ _ | refine Below.drew ?_ | refine Below.alloc ?_ (by first | omega | (simp; done) | (simp; omega)) _ | refine Below.setCell ?_ (by first | omega | (simp; done) | (simp; omega)) _ | refine below_step (by assumption) (by first | omega | (simp; done) | (simp; omega)) ?_)
  clear hc1 hf1 hlt1 hle1 hz1
  obtain ⟨z0, y0, y1, y2, y3⟩ := id hbx1
  dsimp only at y0 y1 y2 y3
  go_wp2
  go_loopw [21] (fun i wr => ∃ k : Nat, k ≤ P.length ∧ i = .int .i64 k ∧ Hid (∀ j, j < k → 0 ≤ nth P j ∧ nth P j < t.vars.length ∧ (0 < j → nth P (j - 1) < nth P j)) ∧ Boxed wr w.heap.size t ⟨av, ai, ag, ao, cv, ci, cg, co⟩ ∧ Below w1.heap.size w1 wr) (fun i _ => P.length - (intOf i).toNat)
  case atStart => exact ⟨0, by omega, rfl, Lib.hid fun j hj => absurd hj (by omega), hbx1, Below.refl _ _⟩
  case round =>
    clear z0 y0 y1 y2 y3
    obtain ⟨k, hk, rfl, Hok, hbox, hbel⟩ := hrel
    obtain ⟨z0, y0, y1, y2, y3⟩ := id hbox
    dsimp only at y0 y1 y2 y3
    by_cases hlt : k < P.length
    · obtain ⟨b, o, ea, hb, d1⟩ := hP.atI (hbw1.trans (hbel.mono hbw1.size)) hlt
      have hbz := hbel.size
      have hbw1z := hbw1.size
      have g2 : b < wr.heap.size := by omega
      have x0 : (0 : Int) ≤ (k : Int) := by omega
      have x1 : (k : Int) < (P.length : Int) := by omega
      by_cases q0 : nth P k < 0
      · subst ea; have e0 : decide (nth P k < 0) = true := by simpa using q0
        have He := HE.out
        go_wp2
        refine bodyPost_ret (v := .tuple #[.bool false, .iface 72 (.int .i64 2)]) (by simp [results, Try.results14, go_sem]) rfl ⟨rfl, hbw1.trans (hbel.mono hbw1.size)⟩
      have e0 : decide (nth P k < 0) = false := by simpa using q0
      by_cases q1 : (t.vars.length : Int) ≤ nth P k
      · subst ea; have e1 : decide ((t.vars.length : Int) ≤ nth P k) = true := by simpa using q1
        have He := HE.out
        go_wp2
        refine bodyPost_ret (v := .tuple #[.bool false, .iface 72 (.int .i64 2)]) (by simp [results, Try.results14, go_sem]) rfl ⟨rfl, hbw1.trans (hbel.mono hbw1.size)⟩
      have e1 : decide ((t.vars.length : Int) ≤ nth P k) = false := by simpa using q1
      by_cases k0 : (0 : Int) < (k : Int)
      · have z0' : decide ((0 : Int) < (k : Int)) = true := by simpa using k0
        obtain ⟨b', o', ea', hb', d2⟩ := hP.atI (hbw1.trans (hbel.mono hbw1.size)) (k := k - 1) (by omega)
        obtain ⟨rfl, rfl⟩ : b = b' ∧ o = o' := by rw [ea] at ea'; cases ea'; exact ⟨rfl, rfl⟩
        subst ea
        by_cases q4 : nth P k ≤ nth P (k - 1)
        · have e4 : decide (nth P k ≤ nth P (k - 1)) = true := by simpa using q4
          have He := HE.out
          go_wp2
          refine bodyPost_ret (v := .tuple #[.bool false, .iface 72 (.int .i64 2)]) (by simp [results, Try.results14, go_sem]) rfl ⟨rfl, hbw1.trans (hbel.mono hbw1.size)⟩
        have e4 : decide (nth P k ≤ nth P (k - 1)) = false := by simpa using q4
        go_wp2
        go_roundw
        case rel => exact ⟨k + 1, by omega, by go_num, Lib.hid fun j hj => by
          rcases Nat.lt_succ_iff_lt_or_eq.1 hj with h | rfl
          · exact Hok.out j h
          · exact ⟨by omega, by omega, fun h => by omega⟩, hbox, hbel⟩
        case measure => simp [intOf]; omega
      · subst ea
        have z0 : decide ((0 : Int) < (k : Int)) = false := by simpa using k0
        have z1 : ¬ (0 : Int) < (k : Int) := by omega
        go_wp2
        go_roundw
        case rel => exact ⟨k + 1, by omega, by go_num, Lib.hid fun j hj => by
          rcases Nat.lt_succ_iff_lt_or_eq.1 hj with h | rfl
          · exact Hok.out j h
          · exact ⟨by omega, by omega, fun h => by omega⟩, hbox, hbel⟩
        case measure => simp [intOf]; omega
    · obtain rfl : k = P.length := by omega
      exact absurd (fun j hj => Hok.out j hj) HE.out

set_option maxRecDepth 100000 in
set_option maxHeartbeats 8000000 in
theorem conn_good (t : Tsk) (p : Lies) (P : List Int) (A : Option Addr) (c : Nat) (w : World) (ht : TaskAt w w.heap.size t p) (hP : IntsAt w w.heap.size A P) (e0 : chkC t = 0) (hp : PaP t.vars.length P) :
    Calls Try.prog 14 #[TaskV t p, .slice A P.length c] w fun e w' => e = .returned (.tuple #[.bool (conB t P), .nilIface]) ∧ Below w.heap.size w w' := by
  have k1 := fun w1 (hb : Below w.heap.size w w1) => tcheck_any t p w1 (ht.up hb)
  have l1 := hP.len
  have hr := right_of e0
  have k3 := fun w1 (hb : Below w.heap.size w w1) => depends_any t p w1 (ht.up hb) hr
  have hpl : P.length ≤ 64 := by
    have hx := hr.nv
    have hl : ∀ k, k < P.length → (k : Int) ≤ nth P k := fun k => by
      induction k with
      | zero => intro h; exact (hp 0 h).1
      | succ k ih => intro h; have h1 := ih (by omega); have h2 := (hp (k + 1) h).2.2 (by omega); rw [Nat.add_sub_cancel] at h2; omega
    rcases Nat.eq_zero_or_pos P.length with h | h
    · omega
    · have := hl (P.length - 1) (by omega); have := (hp (P.length - 1) (by omega)).2.1; omega
  obtain ⟨inf, hi, iz0, iz1, iz2⟩ := info_parts infoI
  obtain ⟨av, ai, ag, ao, cv, ci, cg, co⟩ := p
  unfold TaskV at *
  have K3 := Lib.hid k3
  clear k3
  dsimp only at *
  simp only [e0, erV_0] at k1
  clear e0
  have n64 := hr.nv
  have HR := Lib.hid hr
  clear hr
  go_enter Try.func14, Try.ntmps14
  go_wp2_with fail; refine (k1 _ (by repeat (first | exact Below.refl _ _ | refine below_dN ?_ _ | refine Below.drew ?_ | refine Below.alloc ?_ (by first | omega | (simp; done) | (simp; omega)) _ | refine Below.setCell ?_ (by first | omega | (simp; done) | (simp; omega)) _ | refine below_step (by assumption) (by first | omega | (simp; done) | (simp; omega)) ?_))).mono ?_; rintro e w1 ⟨rfl, hb1⟩; obtain ⟨hc1, hf1, hz1, hlt1, hle1⟩ := cellsIf hb1 (by (try simp); exact rfl); (try have : w.heap.size < w1.heap.size := (by omega)); (try have : w.heap.size < w1.heap.size + 1 := (by omega)); (try have : w.heap.size < w1.heap.size + 1 + 1 := (by omega)); (try have : w.heap.size + 1 < w1.heap.size := (by omega)); (try have : w.heap.size + 1 < w1.heap.size + 1 := (by omega)); (try have : w.heap.size + 1 < w1.heap.size + 1 + 1 := (by omega)); (try have : w.heap.size + 1 + 1 < w1.heap.size := (by omega)); (try have : w.heap.size + 1 + 1 < w1.heap.size + 1 := (by omega)); (try have : w.heap.size + 1 + 1 < w1.heap.size + 1 + 1 := (by omega))
  have hbx1 : Boxed w1 w.heap.size t ⟨av, ai, ag, ao, cv, ci, cg, co⟩ := Boxed.up (by constructor <;> simp) hb1
  have hbw1 : Below w.heap.size w w1 := by repeat (first | exact Below.refl _ _ | refine below_dN ?_ _ | refine Below.drew ?_ | refine Below.alloc ?_ (by first | omega | (simp; done) | (simp; omega)) _ | refine Below.setCell ?_ (by first | omega | (simp; done) | (simp; omega)) _ | refine below_step (by assumption) (by first | omega | (simp; done) | (simp; omega)) ?_)
  clear hc1 hf1 hlt1 hle1 hz1
  obtain ⟨z0, y0, y1, y2, y3⟩ := id hbx1
  dsimp only at y0 y1 y2 y3
  go_wp2
  go_loopw [21] (fun i wr => ∃ k : Nat, k ≤ P.length ∧ i = .int .i64 k ∧ Hid (∀ j, j < k → 0 ≤ nth P j ∧ nth P j < t.vars.length ∧ (0 < j → nth P (j - 1) < nth P j)) ∧ Boxed wr w.heap.size t ⟨av, ai, ag, ao, cv, ci, cg, co⟩ ∧ Below w1.heap.size w1 wr) (fun i _ => P.length - (intOf i).toNat)
  case atStart => exact ⟨0, by omega, rfl, Lib.hid fun j hj => absurd hj (by omega), hbx1, Below.refl _ _⟩
  case round =>
    clear z0 y0 y1 y2 y3
    obtain ⟨k, hk, rfl, Hok, hbox, hbel⟩ := hrel
    obtain ⟨z0, y0, y1, y2, y3⟩ := id hbox
    dsimp only at y0 y1 y2 y3
    by_cases hlt : k < P.length
    · obtain ⟨b, o, ea, hb, d1⟩ := hP.atI (hbw1.trans (hbel.mono hbw1.size)) hlt
      have hbz := hbel.size
      have hbw1z := hbw1.size
      have g2 : b < wr.heap.size := by omega
      have x0 : (0 : Int) ≤ (k : Int) := by omega
      have x1 : (k : Int) < (P.length : Int) := by omega
      by_cases q0 : nth P k < 0
      · exfalso; have := (hp k hlt).1; omega
      have e0 : decide (nth P k < 0) = false := by simpa using q0
      by_cases q1 : (t.vars.length : Int) ≤ nth P k
      · exfalso; have := (hp k hlt).2.1; omega
      have e1 : decide ((t.vars.length : Int) ≤ nth P k) = false := by simpa using q1
      by_cases k0 : (0 : Int) < (k : Int)
      · have z0' : decide ((0 : Int) < (k : Int)) = true := by simpa using k0
        obtain ⟨b', o', ea', hb', d2⟩ := hP.atI (hbw1.trans (hbel.mono hbw1.size)) (k := k - 1) (by omega)
        obtain ⟨rfl, rfl⟩ : b = b' ∧ o = o' := by rw [ea] at ea'; cases ea'; exact ⟨rfl, rfl⟩
        subst ea
        by_cases q4 : nth P k ≤ nth P (k - 1)
        · exfalso; have := (hp k hlt).2.2 (by omega); omega
        have e4 : decide (nth P k ≤ nth P (k - 1)) = false := by simpa using q4
        go_wp2
        go_roundw
        case rel => exact ⟨k + 1, by omega, by go_num, Lib.hid fun j hj => by
          rcases Nat.lt_succ_iff_lt_or_eq.1 hj with h | rfl
          · exact Hok.out j h
          · exact ⟨by omega, by omega, fun h => by omega⟩, hbox, hbel⟩
        case measure => simp [intOf]; omega
      · subst ea
        have z0 : decide ((0 : Int) < (k : Int)) = false := by simpa using k0
        have z1 : ¬ (0 : Int) < (k : Int) := by omega
        go_wp2
        go_roundw
        case rel => exact ⟨k + 1, by omega, by go_num, Lib.hid fun j hj => by
          rcases Nat.lt_succ_iff_lt_or_eq.1 hj with h | rfl
          · exact Hok.out j h
          · exact ⟨by omega, by omega, fun h => by omega⟩, hbox, hbel⟩
        case measure => simp [intOf]; omega
    · obtain rfl : k = P.length := by omega
      clear Hok
      by_cases h2 : (P.length : Int) < 2
      · have hc : conB t P = true := by
          unfold conB
          simp only [decide_eq_true_eq]
          intro j hj
          have : j = 0 := by omega
          subst this; exact .zero
        have Hc := Lib.hid hc
        clear hc
        go_wp2
        refine bodyPost_ret (v := .tuple #[.bool true, .nilIface]) (by simp [results, Try.results14, go_sem]) rfl ⟨by rw [Hc.out], hbw1.trans (hbel.mono hbw1.size)⟩
      have hbw := hbw1.trans (hbel.mono hbw1.size)
      go_wp2_with fail
      refine (K3.out _ hbw).mono ?_
      rintro e w2 ⟨⟨g, rb, rfl, hmat, hg, hrb⟩, hb2⟩
      have hbw2 := hbw.trans (hb2.mono hbw.size)
      have z2 := hbw2.size
      obtain ⟨b0, o0, ea, hb0, d0⟩ := hP.atI hbw2 (k := 0) (by omega)
      subst ea
      have g0 : b0 < w2.heap.size := by omega
      have u0 : (0 : Int) < (P.length : Int) := by omega
      rw [Nat.add_zero] at d0
      have hst := cn_start (t := t) (P := P) (by omega)
      have HST := Lib.hid hst
      clear z0 y0 y1 y2 y3 hst hrb hg
      go_wp2
      go_loopw [10, 11] (fun v i wr => ∃ (i0 : Nat) (f : Nat → Bool) (ix : List Nat), i0 ≤ ix.length ∧ ix.length ≤ P.length ∧ i = .int .i64 i0 ∧ Hid (CnI t P f ix i0 0) ∧ wr.ownsRow w2.heap.size 3 1 v ix.length (ic (sqL P ix)) ∧ Below w2.heap.size w2 wr) (fun _ i _ => P.length - (intOf i).toNat)
      case atStart => exact ⟨0, fun j => j == 0, [0], by simp, by simp; omega, rfl, HST, own_built w2 #[.int .i64 (nth P 0)] 1 (Nat.le_refl _) (by decide) rfl, by repeat (first | exact Below.refl _ _ | refine below_dN ?_ _ | refine Below.drew ?_ | refine Below.alloc ?_ (by first | omega | (simp; done) | (simp; omega)) _ | refine Below.setCell ?_ (by first | omega | (simp; done) | (simp; omega)) _ | refine below_step (by assumption) (by first | omega | (simp; done) | (simp; omega)) ?_)⟩
      case round =>
        obtain ⟨i0, f, ix, hi0, hixl, rfl, hcn, hown, hbq⟩ := hrel
        obtain ⟨wt, rfl⟩ : ∃ wt : World, wt = wr := ⟨_, rfl⟩
        have hbqz := hbq.size
        obtain ⟨AS, cS, rfl⟩ := own_shape hown
        by_cases hlt2 : i0 < ix.length
        · go_wp2
          go_loopw [10, 67] (fun v j wr => ∃ (j0 : Nat) (f : Nat → Bool) (ix : List Nat), j0 ≤ P.length ∧ i0 < ix.length ∧ ix.length ≤ P.length ∧ j = .int .i64 j0 ∧ Hid (CnI t P f ix i0 j0) ∧ wr.ownsRow w2.heap.size 3 1 v ix.length (ic (sqL P ix)) ∧ Below w2.heap.size w2 wr) (fun _ j _ => P.length - (intOf j).toNat)
          case atStart => exact ⟨0, f, ix, by omega, hlt2, hixl, rfl, hcn, hown, hbq⟩
          case round =>
            clear hown hbq hcn hixl hi0 hlt2
            obtain ⟨j0, f', ix', hj0, hi1, hixl, rfl, hcn, hown, hbq⟩ := hrel
            obtain ⟨wu, rfl⟩ : ∃ wu : World, wu = wr := ⟨_, rfl⟩
            have hbqz := hbq.size
            obtain ⟨AQ, cQ, rfl⟩ := own_shape hown
            by_cases hlt3 : j0 < P.length
            · have m := hmat.up hbq
              obtain ⟨b, o, ea, hb, d1⟩ := hP.atI (hbw2.trans (hbq.mono hbw2.size)) hlt3
              cases ea
              have gb : b0 < wu.heap.size := by omega
              have hpv := hp j0 hlt3
              obtain ⟨vj, hvj⟩ : ∃ vj : Nat, nth P j0 = (vj : Int) := ⟨(nth P j0).toNat, by omega⟩
              have hax := (hcn.out.a i0 hi1).1
              have hps := hp (ixA ix' i0) hax
              obtain ⟨vs, hvs⟩ : ∃ vs : Nat, nth P (ixA ix' i0) = (vs : Int) := ⟨(nth P (ixA ix' i0)).toNat, by omega⟩
              have Hvj := Lib.hid hvj
              have HAD := Lib.hid (show adB t P (ixA ix' i0) j0 = (arB t vs vj || arB t vj vs) by unfold adB pv; rw [hvs, hvj]; rfl)
              have hvjn : vj < t.vars.length := by omega
              have hvsn : vs < t.vars.length := by omega
              obtain ⟨gS, cap, eS, hgS, hgS2⟩ : ∃ g cap, Value.slice AQ ix'.length cQ = .slice (some ⟨g, 0, none⟩) ix'.length cap ∧ w2.heap.size ≤ g ∧ g < wu.heap.size := by
                rcases own_view hown with ⟨_, h2⟩ | h
                · omega
                · exact h
              cases eS
              have s1 : wu.cell? ⟨gS, i0, none⟩ = some (.int .i64 (vs : Int)) := own_cell hown (by rw [ic_get (by rw [sqL_len]; exact hi1), sqL_nth hi1, hvs])
              have m1 := m.top vj hvjn
              have m2 := m.cell (v := vj) (u := vs) hvjn hvsn
              have m3 := m.top vs hvsn
              have m4 := m.cell (v := vs) (u := vj) hvsn hvjn
              have m5 := m.rlt hvjn
              have m6 := m.rlt hvsn
              have m7 := m.glt
              have y0 : (0 : Int) ≤ (vj : Int) := by omega
              have y1 : (vj : Int) < (t.vars.length : Int) := by omega
              have y2 : (0 : Int) ≤ (vs : Int) := by omega
              have y3 : (vs : Int) < (t.vars.length : Int) := by omega
              have y4 : (0 : Int) ≤ (i0 : Int) := by omega
              have y5 : (i0 : Int) < (ix'.length : Int) := by omega
              have y6 : (0 : Int) ≤ (j0 : Int) := by omega
              have y7 : (j0 : Int) < (P.length : Int) := by omega
              have kC : ∀ w1, Below wu.heap.size wu w1 → Calls Try.prog 31 #[.slice (some ⟨gS, 0, none⟩) ix'.length cQ, .int .i64 (vj : Int)] w1 fun e w' => e = .returned (.bool (f' j0)) ∧ Below w1.heap.size w1 w' := fun w1 hb1 => by
                obtain ⟨A1, c1, e1, _, hI⟩ := own_got1' (own_below hown hb1) (by rw [sqL_len]) (by rw [sqL_len]; omega)
                have h1 := containsI_any (sqL P ix') A1 c1 (nth P j0) w1 hI
                unfold inI at h1
                rw [cn_has hp hcn.out hlt3, hvj, sqL_len] at h1
                rw [sqL_len] at e1
                cases e1
                exact h1
              have KC := Lib.hid kC
              rw [hvj] at d1
              clear m kC hvj hvs hpv hps hax
              cases a1 : arB t vs vj <;> cases a2 : arB t vj vs <;> cases c1 : f' j0
              all_goals rw [a1] at m2
              all_goals rw [a2] at m4
              · rw [c1] at KC
                go_wp2_with fail
                refine wp_region_aft (by kernel_rfl) (by kernel_rfl) (by (try simp); exact rfl) ?_; intro haft; (repeat (go_big_quiet_step ((first | (go_at_call 31; exact aft_of (KC.out _ (Aft.below _))))))); refine wpQuiet_nil ?_; intro w5 hwx; have hb5 := aft_below hwx; clear hwx; obtain ⟨hc5, hf5, hz5, hlt5, hle5⟩ := cellsIf hb5 (by (try simp); exact rfl); (try have : w.heap.size < w5.heap.size := (by omega)); (try have : w.heap.size < w5.heap.size + 1 := (by omega)); (try have : w.heap.size < w5.heap.size + 1 + 1 := (by omega)); (try have : w.heap.size + 1 < w5.heap.size := (by omega)); (try have : w.heap.size + 1 < w5.heap.size + 1 := (by omega)); (try have : w.heap.size + 1 < w5.heap.size + 1 + 1 := (by omega)); (try have : w.heap.size + 1 + 1 < w5.heap.size := (by omega)); (try have : w.heap.size + 1 + 1 < w5.heap.size + 1 := (by omega)); (try have : w.heap.size + 1 + 1 < w5.heap.size + 1 + 1 := (by omega)); (try have : w1.heap.size < w5.heap.size := (by omega)); (try have : w1.heap.size < w5.heap.size + 1 := (by omega)); (try have : w1.heap.size < w5.heap.size + 1 + 1 := (by omega)); (try have : w1.heap.size + 1 < w5.heap.size := (by omega)); (try have : w1.heap.size + 1 < w5.heap.size + 1 := (by omega)); (try have : w1.heap.size + 1 < w5.heap.size + 1 + 1 := (by omega)); (try have : w1.heap.size + 1 + 1 < w5.heap.size := (by omega)); (try have : w1.heap.size + 1 + 1 < w5.heap.size + 1 := (by omega)); (try have : w1.heap.size + 1 + 1 < w5.heap.size + 1 + 1 := (by omega)); (try have : w2.heap.size < w5.heap.size := (by omega)); (try have : w2.heap.size < w5.heap.size + 1 := (by omega)); (try have : w2.heap.size < w5.heap.size + 1 + 1 := (by omega)); (try have : w2.heap.size + 1 < w5.heap.size := (by omega)); (try have : w2.heap.size + 1 < w5.heap.size + 1 := (by omega)); (try have : w2.heap.size + 1 < w5.heap.size + 1 + 1 := (by omega)); (try have : w2.heap.size + 1 + 1 < w5.heap.size := (by omega)); (try have : w2.heap.size + 1 + 1 < w5.heap.size + 1 := (by omega)); (try have : w2.heap.size + 1 + 1 < w5.heap.size + 1 + 1 := (by omega)); (try have : w3.heap.size < w5.heap.size := (by omega)); (try have : w3.heap.size < w5.heap.size + 1 := (by omega)); (try have : w3.heap.size < w5.heap.size + 1 + 1 := (by omega)); (try have : w3.heap.size + 1 < w5.heap.size := (by omega)); (try have : w3.heap.size + 1 < w5.heap.size + 1 := (by omega)); (try have : w3.heap.size + 1 < w5.heap.size + 1 + 1 := (by omega)); (try have : w3.heap.size + 1 + 1 < w5.heap.size := (by omega)); (try have : w3.heap.size + 1 + 1 < w5.heap.size + 1 := (by omega)); (try have : w3.heap.size + 1 + 1 < w5.heap.size + 1 + 1 := (by omega)); (try have : w4.heap.size < w5.heap.size := (by omega)); (try have : w4.heap.size < w5.heap.size + 1 := (by omega)); (try have : w4.heap.size < w5.heap.size + 1 + 1 := (by omega)); (try have : w4.heap.size + 1 < w5.heap.size := (by omega)); (try have : w4.heap.size + 1 < w5.heap.size + 1 := (by omega)); (try have : w4.heap.size + 1 < w5.heap.size + 1 + 1 := (by omega)); (try have : w4.heap.size + 1 + 1 < w5.heap.size := (by omega)); (try have : w4.heap.size + 1 + 1 < w5.heap.size + 1 := (by omega)); (try have : w4.heap.size + 1 + 1 < w5.heap.size + 1 + 1 := (by omega)); clear haft
                have hb5u : Below wu.heap.size wu w5 := hb5
                have hz5u := hb5u.size
                clear hc5 hf5 hlt5 hle5
                go_wp2
                go_roundw
                case rel => exact ⟨j0 + 1, f', ix', by omega, hi1, hixl, by go_num, Lib.hid (cn_skip hcn.out (.inl (by rw [HAD.out, a1, a2]; rfl))), own_below hown hb5u, hbq.trans (hb5u.mono hbqz)⟩
                case measure => simp [intOf]; omega
              · rw [c1] at KC
                go_wp2_with fail
                refine wp_region_aft (by kernel_rfl) (by kernel_rfl) (by (try simp); exact rfl) ?_; intro haft; (repeat (go_big_quiet_step ((first | (go_at_call 31; exact aft_of (KC.out _ (Aft.below _))))))); refine wpQuiet_nil ?_; intro w5 hwx; have hb5 := aft_below hwx; clear hwx; obtain ⟨hc5, hf5, hz5, hlt5, hle5⟩ := cellsIf hb5 (by (try simp); exact rfl); (try have : w.heap.size < w5.heap.size := (by omega)); (try have : w.heap.size < w5.heap.size + 1 := (by omega)); (try have : w.heap.size < w5.heap.size + 1 + 1 := (by omega)); (try have : w.heap.size + 1 < w5.heap.size := (by omega)); (try have : w.heap.size + 1 < w5.heap.size + 1 := (by omega)); (try have : w.heap.size + 1 < w5.heap.size + 1 + 1 := (by omega)); (try have : w.heap.size + 1 + 1 < w5.heap.size := (by omega)); (try have : w.heap.size + 1 + 1 < w5.heap.size + 1 := (by omega)); (try have : w.heap.size + 1 + 1 < w5.heap.size + 1 + 1 := (by omega)); (try have : w1.heap.size < w5.heap.size := (by omega)); (try have : w1.heap.size < w5.heap.size + 1 := (by omega)); (try have : w1.heap.size < w5.heap.size + 1 + 1 := (by omega)); (try have : w1.heap.size + 1 < w5.heap.size := (by omega)); (try have : w1.heap.size + 1 < w5.heap.size + 1 := (by omega)); (try have : w1.heap.size + 1 < w5.heap.size + 1 + 1 := (by omega)); (try have : w1.heap.size + 1 + 1 < w5.heap.size := (by omega)); (try have : w1.heap.size + 1 + 1 < w5.heap.size + 1 := (by omega)); (try have : w1.heap.size + 1 + 1 < w5.heap.size + 1 + 1 := (by omega)); (try have : w2.heap.size < w5.heap.size := (by omega)); (try have : w2.heap.size < w5.heap.size + 1 := (by omega)); (try have : w2.heap.size < w5.heap.size + 1 + 1 := (by omega)); (try have : w2.heap.size + 1 < w5.heap.size := (by omega)); (try have : w2.heap.size + 1 < w5.heap.size + 1 := (by omega)); (try have : w2.heap.size + 1 < w5.heap.size + 1 + 1 := (by omega)); (try have : w2.heap.size + 1 + 1 < w5.heap.size := (by omega)); (try have : w2.heap.size + 1 + 1 < w5.heap.size + 1 := (by omega)); (try have : w2.heap.size + 1 + 1 < w5.heap.size + 1 + 1 := (by omega)); (try have : w3.heap.size < w5.heap.size := (by omega)); (try have : w3.heap.size < w5.heap.size + 1 := (by omega)); (try have : w3.heap.size < w5.heap.size + 1 + 1 := (by omega)); (try have : w3.heap.size + 1 < w5.heap.size := (by omega)); (try have : w3.heap.size + 1 < w5.heap.size + 1 := (by omega)); (try have : w3.heap.size + 1 < w5.heap.size + 1 + 1 := (by omega)); (try have : w3.heap.size + 1 + 1 < w5.heap.size := (by omega)); (try have : w3.heap.size + 1 + 1 < w5.heap.size + 1 := (by omega)); (try have : w3.heap.size + 1 + 1 < w5.heap.size + 1 + 1 := (by omega)); (try have : w4.heap.size < w5.heap.size := (by omega)); (try have : w4.heap.size < w5.heap.size + 1 := (by omega)); (try have : w4.heap.size < w5.heap.size + 1 + 1 := (by omega)); (try have : w4.heap.size + 1 < w5.heap.size := (by omega)); (try have : w4.heap.size + 1 < w5.heap.size + 1 := (by omega)); (try have : w4.heap.size + 1 < w5.heap.size + 1 + 1 := (by omega)); (try have : w4.heap.size + 1 + 1 < w5.heap.size := (by omega)); (try have : w4.heap.size + 1 + 1 < w5.heap.size + 1 := (by omega)); (try have : w4.heap.size + 1 + 1 < w5.heap.size + 1 + 1 := (by omega)); clear haft
                have hb5u : Below wu.heap.size wu w5 := hb5
                have hz5u := hb5u.size
                clear hc5 hf5 hlt5 hle5
                go_wp2
                go_roundw
                case rel => exact ⟨j0 + 1, f', ix', by omega, hi1, hixl, by go_num, Lib.hid (cn_skip hcn.out (.inr c1)), own_below hown hb5u, hbq.trans (hb5u.mono hbqz)⟩
                case measure => simp [intOf]; omega
              · rw [c1] at KC
                go_wp2_with fail
                refine wp_region_aft (by kernel_rfl) (by kernel_rfl) (by (try simp); exact rfl) ?_; intro haft; (repeat (go_big_quiet_step ((first | (go_at_call 31; exact aft_of (KC.out _ (Aft.below _))))))); refine wpQuiet_nil ?_; intro w5 hwx; have hb5 := aft_below hwx; clear hwx; obtain ⟨hc5, hf5, hz5, hlt5, hle5⟩ := cellsIf hb5 (by (try simp); exact rfl); (try have : w.heap.size < w5.heap.size := (by omega)); (try have : w.heap.size < w5.heap.size + 1 := (by omega)); (try have : w.heap.size < w5.heap.size + 1 + 1 := (by omega)); (try have : w.heap.size + 1 < w5.heap.size := (by omega)); (try have : w.heap.size + 1 < w5.heap.size + 1 := (by omega)); (try have : w.heap.size + 1 < w5.heap.size + 1 + 1 := (by omega)); (try have : w.heap.size + 1 + 1 < w5.heap.size := (by omega)); (try have : w.heap.size + 1 + 1 < w5.heap.size + 1 := (by omega)); (try have : w.heap.size + 1 + 1 < w5.heap.size + 1 + 1 := (by omega)); (try have : w1.heap.size < w5.heap.size := (by omega)); (try have : w1.heap.size < w5.heap.size + 1 := (by omega)); (try have : w1.heap.size < w5.heap.size + 1 + 1 := (by omega)); (try have : w1.heap.size + 1 < w5.heap.size := (by omega)); (try have : w1.heap.size + 1 < w5.heap.size + 1 := (by omega)); (try have : w1.heap.size + 1 < w5.heap.size + 1 + 1 := (by omega)); (try have : w1.heap.size + 1 + 1 < w5.heap.size := (by omega)); (try have : w1.heap.size + 1 + 1 < w5.heap.size + 1 := (by omega)); (try have : w1.heap.size + 1 + 1 < w5.heap.size + 1 + 1 := (by omega)); (try have : w2.heap.size < w5.heap.size := (by omega)); (try have : w2.heap.size < w5.heap.size + 1 := (by omega)); (try have : w2.heap.size < w5.heap.size + 1 + 1 := (by omega)); (try have : w2.heap.size + 1 < w5.heap.size := (by omega)); (try have : w2.heap.size + 1 < w5.heap.size + 1 := (by omega)); (try have : w2.heap.size + 1 < w5.heap.size + 1 + 1 := (by omega)); (try have : w2.heap.size + 1 + 1 < w5.heap.size := (by omega)); (try have : w2.heap.size + 1 + 1 < w5.heap.size + 1 := (by omega)); (try have : w2.heap.size + 1 + 1 < w5.heap.size + 1 + 1 := (by omega)); (try have : w3.heap.size < w5.heap.size := (by omega)); (try have : w3.heap.size < w5.heap.size + 1 := (by omega)); (try have : w3.heap.size < w5.heap.size + 1 + 1 := (by omega)); (try have : w3.heap.size + 1 < w5.heap.size := (by omega)); (try have : w3.heap.size + 1 < w5.heap.size + 1 := (by omega)); (try have : w3.heap.size + 1 < w5.heap.size + 1 + 1 := (by omega)); (try have : w3.heap.size + 1 + 1 < w5.heap.size := (by omega)); (try have : w3.heap.size + 1 + 1 < w5.heap.size + 1 := (by omega)); (try have : w3.heap.size + 1 + 1 < w5.heap.size + 1 + 1 := (by omega)); (try have : w4.heap.size < w5.heap.size := (by omega)); (try have : w4.heap.size < w5.heap.size + 1 := (by omega)); (try have : w4.heap.size < w5.heap.size + 1 + 1 := (by omega)); (try have : w4.heap.size + 1 < w5.heap.size := (by omega)); (try have : w4.heap.size + 1 < w5.heap.size + 1 := (by omega)); (try have : w4.heap.size + 1 < w5.heap.size + 1 + 1 := (by omega)); (try have : w4.heap.size + 1 + 1 < w5.heap.size := (by omega)); (try have : w4.heap.size + 1 + 1 < w5.heap.size + 1 := (by omega)); (try have : w4.heap.size + 1 + 1 < w5.heap.size + 1 + 1 := (by omega)); clear haft
                have hb5u : Below wu.heap.size wu w5 := hb5
                have hz5u := hb5u.size
                clear hc5 hf5 hlt5 hle5
                have HPu := Lib.hid (cn_push hcn.out hi1 hlt3 (by rw [HAD.out]; simp [a2]) c1)
                have hn5 := HPu.out.n
                rw [List.length_append] at hn5
                go_wp2_with (at_builtin; refine wpList_push rfl _ _ 22 rfl w2.heap.size 3 inf (.int .i64 0) 1 8 undI hi iz0 iz1 iz2 rfl (by decide) (by decide) (.slice (some ⟨gS, 0, none⟩) ix'.length cQ) ix'.length (ic (sqL P ix')) rfl ((own_below hown hb5u).alloc _) w5.heap.size 3 [.int .i64 (vj : Int)] rfl rfl (heap_alloc_new _ _) (one_one rfl) (by omega) (by first | omega | (simp; omega)) (B := w2.heap.size) (W := w2) ((hbq.trans (hb5u.mono hbqz)).alloc (by omega) _) (Nat.le_refl _) ?_; intro v' w8 hown' hgrow hat hbw8; have Hown := Lib.hid hown'; clear hown' hgrow hat)
                go_roundw
                case rel => exact ⟨j0 + 1, setF f' j0, ix' ++ [j0], by omega, by simp; omega, by simp at hn5 ⊢; omega, by go_num, HPu, by rw [List.length_append, sqL_app, ← ic_push, Hvj.out]; exact Hown.out, hbw8⟩
                case measure => simp [intOf]; omega
              · rw [c1] at KC
                go_wp2_with fail
                refine wp_region_aft (by kernel_rfl) (by kernel_rfl) (by (try simp); exact rfl) ?_; intro haft; (repeat (go_big_quiet_step ((first | (go_at_call 31; exact aft_of (KC.out _ (Aft.below _))))))); refine wpQuiet_nil ?_; intro w5 hwx; have hb5 := aft_below hwx; clear hwx; obtain ⟨hc5, hf5, hz5, hlt5, hle5⟩ := cellsIf hb5 (by (try simp); exact rfl); (try have : w.heap.size < w5.heap.size := (by omega)); (try have : w.heap.size < w5.heap.size + 1 := (by omega)); (try have : w.heap.size < w5.heap.size + 1 + 1 := (by omega)); (try have : w.heap.size + 1 < w5.heap.size := (by omega)); (try have : w.heap.size + 1 < w5.heap.size + 1 := (by omega)); (try have : w.heap.size + 1 < w5.heap.size + 1 + 1 := (by omega)); (try have : w.heap.size + 1 + 1 < w5.heap.size := (by omega)); (try have : w.heap.size + 1 + 1 < w5.heap.size + 1 := (by omega)); (try have : w.heap.size + 1 + 1 < w5.heap.size + 1 + 1 := (by omega)); (try have : w1.heap.size < w5.heap.size := (by omega)); (try have : w1.heap.size < w5.heap.size + 1 := (by omega)); (try have : w1.heap.size < w5.heap.size + 1 + 1 := (by omega)); (try have : w1.heap.size + 1 < w5.heap.size := (by omega)); (try have : w1.heap.size + 1 < w5.heap.size + 1 := (by omega)); (try have : w1.heap.size + 1 < w5.heap.size + 1 + 1 := (by omega)); (try have : w1.heap.size + 1 + 1 < w5.heap.size := (by omega)); (try have : w1.heap.size + 1 + 1 < w5.heap.size + 1 := (by omega)); (try have : w1.heap.size + 1 + 1 < w5.heap.size + 1 + 1 := (by omega)); (try have : w2.heap.size < w5.heap.size := (by omega)); (try have : w2.heap.size < w5.heap.size + 1 := (by omega)); (try have : w2.heap.size < w5.heap.size + 1 + 1 := (by omega)); (try have : w2.heap.size + 1 < w5.heap.size := (by omega)); (try have : w2.heap.size + 1 < w5.heap.size + 1 := (by omega)); (try have : w2.heap.size + 1 < w5.heap.size + 1 + 1 := (by omega)); (try have : w2.heap.size + 1 + 1 < w5.heap.size := (by omega)); (try have : w2.heap.size + 1 + 1 < w5.heap.size + 1 := (by omega)); (try have : w2.heap.size + 1 + 1 < w5.heap.size + 1 + 1 := (by omega)); (try have : w3.heap.size < w5.heap.size := (by omega)); (try have : w3.heap.size < w5.heap.size + 1 := (by omega)); (try have : w3.heap.size < w5.heap.size + 1 + 1 := (by omega)); (try have : w3.heap.size + 1 < w5.heap.size := (by omega)); (try have : w3.heap.size + 1 < w5.heap.size + 1 := (by omega)); (try have : w3.heap.size + 1 < w5.heap.size + 1 + 1 := (by omega)); (try have : w3.heap.size + 1 + 1 < w5.heap.size := (by omega)); (try have : w3.heap.size + 1 + 1 < w5.heap.size + 1 := (by omega)); (try have : w3.heap.size + 1 + 1 < w5.heap.size + 1 + 1 := (by omega)); (try have : w4.heap.size < w5.heap.size := (by omega)); (try have : w4.heap.size < w5.heap.size + 1 := (by omega)); (try have : w4.heap.size < w5.heap.size + 1 + 1 := (by omega)); (try have : w4.heap.size + 1 < w5.heap.size := (by omega)); (try have : w4.heap.size + 1 < w5.heap.size + 1 := (by omega)); (try have : w4.heap.size + 1 < w5.heap.size + 1 + 1 := (by omega)); (try have : w4.heap.size + 1 + 1 < w5.heap.size := (by omega)); (try have : w4.heap.size + 1 + 1 < w5.heap.size + 1 := (by omega)); (try have : w4.heap.size + 1 + 1 < w5.heap.size + 1 + 1 := (by omega)); clear haft
                have hb5u : Below wu.heap.size wu w5 := hb5
                have hz5u := hb5u.size
                clear hc5 hf5 hlt5 hle5
                go_wp2
                go_roundw
                case rel => exact ⟨j0 + 1, f', ix', by omega, hi1, hixl, by go_num, Lib.hid (cn_skip hcn.out (.inr c1)), own_below hown hb5u, hbq.trans (hb5u.mono hbqz)⟩
                case measure => simp [intOf]; omega
              · rw [c1] at KC
                go_wp2_with fail
                refine wp_region_aft (by kernel_rfl) (by kernel_rfl) (by (try simp); exact rfl) ?_; intro haft; (repeat (go_big_quiet_step ((first | (go_at_call 31; exact aft_of (KC.out _ (Aft.below _))))))); refine wpQuiet_nil ?_; intro w5 hwx; have hb5 := aft_below hwx; clear hwx; obtain ⟨hc5, hf5, hz5, hlt5, hle5⟩ := cellsIf hb5 (by (try simp); exact rfl); (try have : w.heap.size < w5.heap.size := (by omega)); (try have : w.heap.size < w5.heap.size + 1 := (by omega)); (try have : w.heap.size < w5.heap.size + 1 + 1 := (by omega)); (try have : w.heap.size + 1 < w5.heap.size := (by omega)); (try have : w.heap.size + 1 < w5.heap.size + 1 := (by omega)); (try have : w.heap.size + 1 < w5.heap.size + 1 + 1 := (by omega)); (try have : w.heap.size + 1 + 1 < w5.heap.size := (by omega)); (try have : w.heap.size + 1 + 1 < w5.heap.size + 1 := (by omega)); (try have : w.heap.size + 1 + 1 < w5.heap.size + 1 + 1 := (by omega)); (try have : w1.heap.size < w5.heap.size := (by omega)); (try have : w1.heap.size < w5.heap.size + 1 := (by omega)); (try have : w1.heap.size < w5.heap.size + 1 + 1 := (by omega)); (try have : w1.heap.size + 1 < w5.heap.size := (by omega)); (try have : w1.heap.size + 1 < w5.heap.size + 1 := (by omega)); (try have : w1.heap.size + 1 < w5.heap.size + 1 + 1 := (by omega)); (try have : w1.heap.size + 1 + 1 < w5.heap.size := (by omega)); (try have : w1.heap.size + 1 + 1 < w5.heap.size + 1 := (by omega)); (try have : w1.heap.size + 1 + 1 < w5.heap.size + 1 + 1 := (by omega)); (try have : w2.heap.size < w5.heap.size := (by omega)); (try have : w2.heap.size < w5.heap.size + 1 := (by omega)); (try have : w2.heap.size < w5.heap.size + 1 + 1 := (by omega)); (try have : w2.heap.size + 1 < w5.heap.size := (by omega)); (try have : w2.heap.size + 1 < w5.heap.size + 1 := (by omega)); (try have : w2.heap.size + 1 < w5.heap.size + 1 + 1 := (by omega)); (try have : w2.heap.size + 1 + 1 < w5.heap.size := (by omega)); (try have : w2.heap.size + 1 + 1 < w5.heap.size + 1 := (by omega)); (try have : w2.heap.size + 1 + 1 < w5.heap.size + 1 + 1 := (by omega)); (try have : w3.heap.size < w5.heap.size := (by omega)); (try have : w3.heap.size < w5.heap.size + 1 := (by omega)); (try have : w3.heap.size < w5.heap.size + 1 + 1 := (by omega)); (try have : w3.heap.size + 1 < w5.heap.size := (by omega)); (try have : w3.heap.size + 1 < w5.heap.size + 1 := (by omega)); (try have : w3.heap.size + 1 < w5.heap.size + 1 + 1 := (by omega)); (try have : w3.heap.size + 1 + 1 < w5.heap.size := (by omega)); (try have : w3.heap.size + 1 + 1 < w5.heap.size + 1 := (by omega)); (try have : w3.heap.size + 1 + 1 < w5.heap.size + 1 + 1 := (by omega)); (try have : w4.heap.size < w5.heap.size := (by omega)); (try have : w4.heap.size < w5.heap.size + 1 := (by omega)); (try have : w4.heap.size < w5.heap.size + 1 + 1 := (by omega)); (try have : w4.heap.size + 1 < w5.heap.size := (by omega)); (try have : w4.heap.size + 1 < w5.heap.size + 1 := (by omega)); (try have : w4.heap.size + 1 < w5.heap.size + 1 + 1 := (by omega)); (try have : w4.heap.size + 1 + 1 < w5.heap.size := (by omega)); (try have : w4.heap.size + 1 + 1 < w5.heap.size + 1 := (by omega)); (try have : w4.heap.size + 1 + 1 < w5.heap.size + 1 + 1 := (by omega)); clear haft
                have hb5u : Below wu.heap.size wu w5 := hb5
                have hz5u := hb5u.size
                clear hc5 hf5 hlt5 hle5
                have HPu := Lib.hid (cn_push hcn.out hi1 hlt3 (by rw [HAD.out]; simp [a1]) c1)
                have hn5 := HPu.out.n
                rw [List.length_append] at hn5
                go_wp2_with (at_builtin; refine wpList_push rfl _ _ 22 rfl w2.heap.size 3 inf (.int .i64 0) 1 8 undI hi iz0 iz1 iz2 rfl (by decide) (by decide) (.slice (some ⟨gS, 0, none⟩) ix'.length cQ) ix'.length (ic (sqL P ix')) rfl ((own_below hown hb5u).alloc _) w5.heap.size 3 [.int .i64 (vj : Int)] rfl rfl (heap_alloc_new _ _) (one_one rfl) (by omega) (by first | omega | (simp; omega)) (B := w2.heap.size) (W := w2) ((hbq.trans (hb5u.mono hbqz)).alloc (by omega) _) (Nat.le_refl _) ?_; intro v' w8 hown' hgrow hat hbw8; have Hown := Lib.hid hown'; clear hown' hgrow hat)
                go_roundw
                case rel => exact ⟨j0 + 1, setF f' j0, ix' ++ [j0], by omega, by simp; omega, by simp at hn5 ⊢; omega, by go_num, HPu, by rw [List.length_append, sqL_app, ← ic_push, Hvj.out]; exact Hown.out, hbw8⟩
                case measure => simp [intOf]; omega
              · rw [c1] at KC
                go_wp2_with fail
                refine wp_region_aft (by kernel_rfl) (by kernel_rfl) (by (try simp); exact rfl) ?_; intro haft; (repeat (go_big_quiet_step ((first | (go_at_call 31; exact aft_of (KC.out _ (Aft.below _))))))); refine wpQuiet_nil ?_; intro w5 hwx; have hb5 := aft_below hwx; clear hwx; obtain ⟨hc5, hf5, hz5, hlt5, hle5⟩ := cellsIf hb5 (by (try simp); exact rfl); (try have : w.heap.size < w5.heap.size := (by omega)); (try have : w.heap.size < w5.heap.size + 1 := (by omega)); (try have : w.heap.size < w5.heap.size + 1 + 1 := (by omega)); (try have : w.heap.size + 1 < w5.heap.size := (by omega)); (try have : w.heap.size + 1 < w5.heap.size + 1 := (by omega)); (try have : w.heap.size + 1 < w5.heap.size + 1 + 1 := (by omega)); (try have : w.heap.size + 1 + 1 < w5.heap.size := (by omega)); (try have : w.heap.size + 1 + 1 < w5.heap.size + 1 := (by omega)); (try have : w.heap.size + 1 + 1 < w5.heap.size + 1 + 1 := (by omega)); (try have : w1.heap.size < w5.heap.size := (by omega)); (try have : w1.heap.size < w5.heap.size + 1 := (by omega)); (try have : w1.heap.size < w5.heap.size + 1 + 1 := (by omega)); (try have : w1.heap.size + 1 < w5.heap.size := (by omega)); (try have : w1.heap.size + 1 < w5.heap.size + 1 := (by omega)); (try have : w1.heap.size + 1 < w5.heap.size + 1 + 1 := (by omega)); (try have : w1.heap.size + 1 + 1 < w5.heap.size := (by omega)); (try have : w1.heap.size + 1 + 1 < w5.heap.size + 1 := (by omega)); (try have : w1.heap.size + 1 + 1 < w5.heap.size + 1 + 1 := (by omega)); (try have : w2.heap.size < w5.heap.size := (by omega)); (try have : w2.heap.size < w5.heap.size + 1 := (by omega)); (try have : w2.heap.size < w5.heap.size + 1 + 1 := (by omega)); (try have : w2.heap.size + 1 < w5.heap.size := (by omega)); (try have : w2.heap.size + 1 < w5.heap.size + 1 := (by omega)); (try have : w2.heap.size + 1 < w5.heap.size + 1 + 1 := (by omega)); (try have : w2.heap.size + 1 + 1 < w5.heap.size := (by omega)); (try have : w2.heap.size + 1 + 1 < w5.heap.size + 1 := (by omega)); (try have : w2.heap.size + 1 + 1 < w5.heap.size + 1 + 1 := (by omega)); (try have : w3.heap.size < w5.heap.size := (by omega)); (try have : w3.heap.size < w5.heap.size + 1 := (by omega)); (try have : w3.heap.size < w5.heap.size + 1 + 1 := (by omega)); (try have : w3.heap.size + 1 < w5.heap.size := (by omega)); (try have : w3.heap.size + 1 < w5.heap.size + 1 := (by omega)); (try have : w3.heap.size + 1 < w5.heap.size + 1 + 1 := (by omega)); (try have : w3.heap.size + 1 + 1 < w5.heap.size := (by omega)); (try have : w3.heap.size + 1 + 1 < w5.heap.size + 1 := (by omega)); (try have : w3.heap.size + 1 + 1 < w5.heap.size + 1 + 1 := (by omega)); (try have : w4.heap.size < w5.heap.size := (by omega)); (try have : w4.heap.size < w5.heap.size + 1 := (by omega)); (try have : w4.heap.size < w5.heap.size + 1 + 1 := (by omega)); (try have : w4.heap.size + 1 < w5.heap.size := (by omega)); (try have : w4.heap.size + 1 < w5.heap.size + 1 := (by omega)); (try have : w4.heap.size + 1 < w5.heap.size + 1 + 1 := (by omega)); (try have : w4.heap.size + 1 + 1 < w5.heap.size := (by omega)); (try have : w4.heap.size + 1 + 1 < w5.heap.size + 1 := (by omega)); (try have : w4.heap.size + 1 + 1 < w5.heap.size + 1 + 1 := (by omega)); clear haft
                have hb5u : Below wu.heap.size wu w5 := hb5
                have hz5u := hb5u.size
                clear hc5 hf5 hlt5 hle5
                go_wp2
                go_roundw
                case rel => exact ⟨j0 + 1, f', ix', by omega, hi1, hixl, by go_num, Lib.hid (cn_skip hcn.out (.inr c1)), own_below hown hb5u, hbq.trans (hb5u.mono hbqz)⟩
                case measure => simp [intOf]; omega
              · rw [c1] at KC
                go_wp2_with fail
                refine wp_region_aft (by kernel_rfl) (by kernel_rfl) (by (try simp); exact rfl) ?_; intro haft; (repeat (go_big_quiet_step ((first | (go_at_call 31; exact aft_of (KC.out _ (Aft.below _))))))); refine wpQuiet_nil ?_; intro w5 hwx; have hb5 := aft_below hwx; clear hwx; obtain ⟨hc5, hf5, hz5, hlt5, hle5⟩ := cellsIf hb5 (by (try simp); exact rfl); (try have : w.heap.size < w5.heap.size := (by omega)); (try have : w.heap.size < w5.heap.size + 1 := (by omega)); (try have : w.heap.size < w5.heap.size + 1 + 1 := (by omega)); (try have : w.heap.size + 1 < w5.heap.size := (by omega)); (try have : w.heap.size + 1 < w5.heap.size + 1 := (by omega)); (try have : w.heap.size + 1 < w5.heap.size + 1 + 1 := (by omega)); (try have : w.heap.size + 1 + 1 < w5.heap.size := (by omega)); (try have : w.heap.size + 1 + 1 < w5.heap.size + 1 := (by omega)); (try have : w.heap.size + 1 + 1 < w5.heap.size + 1 + 1 := (by omega)); (try have : w1.heap.size < w5.heap.size := (by omega)); (try have : w1.heap.size < w5.heap.size + 1 := (by omega)); (try have : w1.heap.size < w5.heap.size + 1 + 1 := (by omega)); (try have : w1.heap.size + 1 < w5.heap.size := (by omega)); (try have : w1.heap.size + 1 < w5.heap.size + 1 := (by omega)); (try have : w1.heap.size + 1 < w5.heap.size + 1 + 1 := (by omega)); (try have : w1.heap.size + 1 + 1 < w5.heap.size := (by omega)); (try have : w1.heap.size + 1 + 1 < w5.heap.size + 1 := (by omega)); (try have : w1.heap.size + 1 + 1 < w5.heap.size + 1 + 1 := (by omega)); (try have : w2.heap.size < w5.heap.size := (by omega)); (try have : w2.heap.size < w5.heap.size + 1 := (by omega)); (try have : w2.heap.size < w5.heap.size + 1 + 1 := (by omega)); (try have : w2.heap.size + 1 < w5.heap.size := (by omega)); (try have : w2.heap.size + 1 < w5.heap.size + 1 := (by omega)); (try have : w2.heap.size + 1 < w5.heap.size + 1 + 1 := (by omega)); (try have : w2.heap.size + 1 + 1 < w5.heap.size := (by omega)); (try have : w2.heap.size + 1 + 1 < w5.heap.size + 1 := (by omega)); (try have : w2.heap.size + 1 + 1 < w5.heap.size + 1 + 1 := (by omega)); (try have : w3.heap.size < w5.heap.size := (by omega)); (try have : w3.heap.size < w5.heap.size + 1 := (by omega)); (try have : w3.heap.size < w5.heap.size + 1 + 1 := (by omega)); (try have : w3.heap.size + 1 < w5.heap.size := (by omega)); (try have : w3.heap.size + 1 < w5.heap.size + 1 := (by omega)); (try have : w3.heap.size + 1 < w5.heap.size + 1 + 1 := (by omega)); (try have : w3.heap.size + 1 + 1 < w5.heap.size := (by omega)); (try have : w3.heap.size + 1 + 1 < w5.heap.size + 1 := (by omega)); (try have : w3.heap.size + 1 + 1 < w5.heap.size + 1 + 1 := (by omega)); (try have : w4.heap.size < w5.heap.size := (by omega)); (try have : w4.heap.size < w5.heap.size + 1 := (by omega)); (try have : w4.heap.size < w5.heap.size + 1 + 1 := (by omega)); (try have : w4.heap.size + 1 < w5.heap.size := (by omega)); (try have : w4.heap.size + 1 < w5.heap.size + 1 := (by omega)); (try have : w4.heap.size + 1 < w5.heap.size + 1 + 1 := (by omega)); (try have : w4.heap.size + 1 + 1 < w5.heap.size := (by omega)); (try have : w4.heap.size + 1 + 1 < w5.heap.size + 1 := (by omega)); (try have : w4.heap.size + 1 + 1 < w5.heap.size + 1 + 1 := (by omega)); clear haft
                have hb5u : Below wu.heap.size wu w5 := hb5
                have hz5u := hb5u.size
                clear hc5 hf5 hlt5 hle5
                have HPu := Lib.hid (cn_push hcn.out hi1 hlt3 (by rw [HAD.out]; simp [a1]) c1)
                have hn5 := HPu.out.n
                rw [List.length_append] at hn5
                go_wp2_with (at_builtin; refine wpList_push rfl _ _ 22 rfl w2.heap.size 3 inf (.int .i64 0) 1 8 undI hi iz0 iz1 iz2 rfl (by decide) (by decide) (.slice (some ⟨gS, 0, none⟩) ix'.length cQ) ix'.length (ic (sqL P ix')) rfl ((own_below hown hb5u).alloc _) w5.heap.size 3 [.int .i64 (vj : Int)] rfl rfl (heap_alloc_new _ _) (one_one rfl) (by omega) (by first | omega | (simp; omega)) (B := w2.heap.size) (W := w2) ((hbq.trans (hb5u.mono hbqz)).alloc (by omega) _) (Nat.le_refl _) ?_; intro v' w8 hown' hgrow hat hbw8; have Hown := Lib.hid hown'; clear hown' hgrow hat)
                go_roundw
                case rel => exact ⟨j0 + 1, setF f' j0, ix' ++ [j0], by omega, by simp; omega, by simp at hn5 ⊢; omega, by go_num, HPu, by rw [List.length_append, sqL_app, ← ic_push, Hvj.out]; exact Hown.out, hbw8⟩
                case measure => simp [intOf]; omega
              · rw [c1] at KC
                go_wp2_with fail
                refine wp_region_aft (by kernel_rfl) (by kernel_rfl) (by (try simp); exact rfl) ?_; intro haft; (repeat (go_big_quiet_step ((first | (go_at_call 31; exact aft_of (KC.out _ (Aft.below _))))))); refine wpQuiet_nil ?_; intro w5 hwx; have hb5 := aft_below hwx; clear hwx; obtain ⟨hc5, hf5, hz5, hlt5, hle5⟩ := cellsIf hb5 (by (try simp); exact rfl); (try have : w.heap.size < w5.heap.size := (by omega)); (try have : w.heap.size < w5.heap.size + 1 := (by omega)); (try have : w.heap.size < w5.heap.size + 1 + 1 := (by omega)); (try have : w.heap.size + 1 < w5.heap.size := (by omega)); (try have : w.heap.size + 1 < w5.heap.size + 1 := (by omega)); (try have : w.heap.size + 1 < w5.heap.size + 1 + 1 := (by omega)); (try have : w.heap.size + 1 + 1 < w5.heap.size := (by omega)); (try have : w.heap.size + 1 + 1 < w5.heap.size + 1 := (by omega)); (try have : w.heap.size + 1 + 1 < w5.heap.size + 1 + 1 := (by omega)); (try have : w1.heap.size < w5.heap.size := (by omega)); (try have : w1.heap.size < w5.heap.size + 1 := (by omega)); (try have : w1.heap.size < w5.heap.size + 1 + 1 := (by omega)); (try have : w1.heap.size + 1 < w5.heap.size := (by omega)); (try have : w1.heap.size + 1 < w5.heap.size + 1 := (by omega)); (try have : w1.heap.size + 1 < w5.heap.size + 1 + 1 := (by omega)); (try have : w1.heap.size + 1 + 1 < w5.heap.size := (by omega)); (try have : w1.heap.size + 1 + 1 < w5.heap.size + 1 := (by omega)); (try have : w1.heap.size + 1 + 1 < w5.heap.size + 1 + 1 := (by omega)); (try have : w2.heap.size < w5.heap.size := (by omega)); (try have : w2.heap.size < w5.heap.size + 1 := (by omega)); (try have : w2.heap.size < w5.heap.size + 1 + 1 := (by omega)); (try have : w2.heap.size + 1 < w5.heap.size := (by omega)); (try have : w2.heap.size + 1 < w5.heap.size + 1 := (by omega)); (try have : w2.heap.size + 1 < w5.heap.size + 1 + 1 := (by omega)); (try have : w2.heap.size + 1 + 1 < w5.heap.size := (by omega)); (try have : w2.heap.size + 1 + 1 < w5.heap.size + 1 := (by omega)); (try have : w2.heap.size + 1 + 1 < w5.heap.size + 1 + 1 := (by omega)); (try have : w3.heap.size < w5.heap.size := (by omega)); (try have : w3.heap.size < w5.heap.size + 1 := (by omega)); (try have : w3.heap.size < w5.heap.size + 1 + 1 := (by omega)); (try have : w3.heap.size + 1 < w5.heap.size := (by omega)); (try have : w3.heap.size + 1 < w5.heap.size + 1 := (by omega)); (try have : w3.heap.size + 1 < w5.heap.size + 1 + 1 := (by omega)); (try have : w3.heap.size + 1 + 1 < w5.heap.size := (by omega)); (try have : w3.heap.size + 1 + 1 < w5.heap.size + 1 := (by omega)); (try have : w3.heap.size + 1 + 1 < w5.heap.size + 1 + 1 := (by omega)); (try have : w4.heap.size < w5.heap.size := (by omega)); (try have : w4.heap.size < w5.heap.size + 1 := (by omega)); (try have : w4.heap.size < w5.heap.size + 1 + 1 := (by omega)); (try have : w4.heap.size + 1 < w5.heap.size := (by omega)); (try have : w4.heap.size + 1 < w5.heap.size + 1 := (by omega)); (try have : w4.heap.size + 1 < w5.heap.size + 1 + 1 := (by omega)); (try have : w4.heap.size + 1 + 1 < w5.heap.size := (by omega)); (try have : w4.heap.size + 1 + 1 < w5.heap.size + 1 := (by omega)); (try have : w4.heap.size + 1 + 1 < w5.heap.size + 1 + 1 := (by omega)); clear haft
                have hb5u : Below wu.heap.size wu w5 := hb5
                have hz5u := hb5u.size
                clear hc5 hf5 hlt5 hle5
                go_wp2
                go_roundw
                case rel => exact ⟨j0 + 1, f', ix', by omega, hi1, hixl, by go_num, Lib.hid (cn_skip hcn.out (.inr c1)), own_below hown hb5u, hbq.trans (hb5u.mono hbqz)⟩
                case measure => simp [intOf]; omega
            · obtain rfl : j0 = P.length := by omega
              have HN := Lib.hid (cn_next hcn.out)
              go_wp2
              go_roundw
              case rel => exact ⟨i0 + 1, f', ix', by omega, hixl, by go_num, HN, hown, hbq⟩
              case measure => simp [intOf]; omega
        · have he := cn_end hcn.out (by omega)
          have hdec : ((ix.length : Int) == (P.length : Int)) = conB t P := by rw [he, Bool.eq_iff_iff]; simp; omega
          have Hdec := Lib.hid hdec
          clear he hdec
          go_wp2
          refine bodyPost_ret (v := .tuple #[.bool ((ix.length : Int) == (P.length : Int)), .nilIface]) (by simp [results, Try.results14, go_sem]) rfl ⟨by rw [Hdec.out], hbw2.trans (hbq.mono hbw2.size)⟩

end Go.Proofs.Ytdkighaddldmcaa

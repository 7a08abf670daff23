/- The error of costs and cuts: the program's check, the reference's Check. -/
import Derived.Test.YtaampjhdgeoicaaGreatMfC
import Derived.Test.YtaampjhdgeoicaaGreatMfA
namespace Go.Proofs.YtaampjhdgeoicaaGreat
set_option linter.unusedSimpArgs false
set_option linter.unusedVariables false
open Go.RowKit
set_option linter.unusedVariables false

theorem chk_cuts {costs : List Int} {l : List Cut} (h : anyB costs.length (offC costs) = false) (hm : ¬ 24 < l.length) : chk38 costs l = cutsC costs.length l := by
 unfold chk38; rw [h, if_neg hm]; rfl
theorem chk_off {costs : List Int} {l : List Cut} (h : anyB costs.length (offC costs) = true) : chk38 costs l = 1 := by
 unfold chk38; rw [h]; rfl
theorem chk_many {costs : List Int} {l : List Cut} (h : anyB costs.length (offC costs) = false) (hm : 24 < l.length) : chk38 costs l = 5 := by
 unfold chk38; rw [h, if_pos hm]; rfl

theorem lam38_any (x : Int) (w : World) : Calls Tryz.prog 55 #[.int .i64 x] w fun e w' => e = .returned (.bool (decide (x < 0) || decide (1048576 < x))) ∧ w = w' := by
 by_cases h1 : x < 0
 ·have e1 : decide (x < 0) = true := by simpa using h1
  go_enter Tryz.func55, Tryz.ntmps55
  go_wp2
  go_ret
  exact ⟨by rw [e1]; rfl, rfl⟩
 ·have e1 : decide (x < 0) = false := by simpa using h1
  go_enter Tryz.func55, Tryz.ntmps55
  go_wp2
  go_ret
  exact ⟨by first | rfl | (rw [e1]; rfl), rfl⟩

set_option maxHeartbeats 1000000 in
theorem indexf38_any (costs : List Int) (A : Option Addr) (c : Nat) (w : World) (h : IntsAt w w.heap.size A costs) :
  Calls Tryz.prog 88 #[.slice A costs.length c, .func (.func 55) #[] #[]] w fun e w' => (∃ i, e = .returned (.int .i64 i) ∧ decide (0 ≤ i) = anyB costs.length (offC costs)) ∧ Below w.heap.size w w' := by
 have hl := h.len
 go_enter Tryz.func88, Tryz.ntmps88
 go_wp2
 go_loopw [8] (fun i wr => ∃ k : Nat, k ≤ costs.length ∧ i = .int .i64 k ∧ anyB k (offC costs) = false ∧ Below w.heap.size w wr) (fun i _ => costs.length - (intOf i).toNat)
 case atStart => exact ⟨0, by omega, rfl, rfl, Below.refl _ _⟩
 case round =>
  obtain ⟨k, hk, rfl, hB, hbel⟩ := hrel
  have HB := Lib.hid hB
  clear hB
  by_cases hlt : k < costs.length
  ·obtain ⟨b, o, ea, hb, d1⟩ := h.at2 hbel hlt
   subst ea
   have hbz := hbel.size
   cases e1 : offC costs k
   ·have e2 := e1
    unfold offC at e2
    go_wp2_with fail
    refine (lam38_any _ _).mono ?_
    rintro e w' ⟨rfl, rfl⟩
    rw [e2]
    go_wp2
    go_roundw
    case rel => exact ⟨k + 1, by omega, by go_num, (by rw [anyB_succ, HB.out]; exact e1), by exact bel⟩
    case measure => simp [intOf]; omega
   ·have e2 := e1
    unfold offC at e2
    go_wp2_with fail
    refine (lam38_any _ _).mono ?_
    rintro e w' ⟨rfl, rfl⟩
    rw [e2]
    go_wp2
    go_ret
    refine ⟨⟨_, rfl, ?_⟩, by exact bel⟩
    rw [anyB_true.2 ⟨k, hlt, e1⟩]
    simp
  ·go_wp2
   go_ret
   refine ⟨⟨_, rfl, ?_⟩, by exact bel⟩
   rw [show costs.length = k by omega, HB.out]
   rfl

set_option maxHeartbeats 1000000 in
theorem containsf38_any (costs : List Int) (A : Option Addr) (c : Nat) (w : World) (h : IntsAt w w.heap.size A costs) :
  Calls Tryz.prog 54 #[.slice A costs.length c, .func (.func 55) #[] #[]] w fun e w' => e = .returned (.bool (anyB costs.length (offC costs))) ∧ Below w.heap.size w w' := by
 have k1 := fun w1 (hb : Below w.heap.size w w1) => indexf38_any costs A c w1 (h.up hb)
 go_enter Tryz.func54, Tryz.ntmps54
 go_wp2_with fail
 refine (k1 _ (by exact bel)).mono ?_
 rintro e w1 ⟨⟨i, rfl, hi⟩, hb1⟩
 have Hi := Lib.hid hi
 clear hi
 go_wp2
 go_ret
 exact ⟨bool_ret Hi.out, by exact bel⟩

set_option maxRecDepth 4000 in
set_option maxHeartbeats 4000000 in
theorem check38_any (costs : List Int) (l : List Cut) (A1 A2 : Option Addr) (c1 c2 : Nat) (w : World) (h1 : IntsAt w w.heap.size A1 costs) (h2 : CutsAt w w.heap.size A2 l) :
  Calls Tryz.prog 25 #[.slice A1 costs.length c1, .slice A2 l.length c2] w fun e w' => e = .returned (errV (chk38 costs l)) ∧ Below w.heap.size w w' := by
 have k1 := fun w1 (hb : Below w.heap.size w w1) => containsf38_any costs A1 c1 w1 (h1.up hb)
 have l1 := h1.len
 have l2 := h2.len
 cases h0 : anyB costs.length (offC costs)
 ·rw [h0] at k1
  by_cases hmany : 24 < l.length
  ·have He := Lib.hid (chk_many h0 hmany)
   go_enter Tryz.func25, Tryz.ntmps25
   go_wp2_with fail; refine (k1 _ (by exact bel)).mono ?_; rintro e w1 ⟨rfl, hb1⟩; obtain ⟨hc1, hf1, hz1, hlt1, hle1⟩ := cellsIf hb1 (by (try simp); exact rfl); (try have := s00 w w1); (try have := s01 w w1); (try have := s02 w w1); (try have := s10 w w1); (try have := s11 w w1); (try have := s12 w w1); (try have := s20 w w1); (try have := s21 w w1); (try have := s22 w w1)
   go_wp2
   go_ret
   exact ⟨by rw [He.out]; rfl, by exact bel⟩
  go_enter Tryz.func25, Tryz.ntmps25
  go_wp2_with fail; refine (k1 _ (by exact bel)).mono ?_; rintro e w1 ⟨rfl, hb1⟩; obtain ⟨hc1, hf1, hz1, hlt1, hle1⟩ := cellsIf hb1 (by (try simp); exact rfl); (try have := s00 w w1); (try have := s01 w w1); (try have := s02 w w1); (try have := s10 w w1); (try have := s11 w w1); (try have := s12 w w1); (try have := s20 w w1); (try have := s21 w w1); (try have := s22 w w1)
  have hbw : Below w.heap.size w w1 := by exact bel
  clear hc1 hf1 hz1 hlt1 hle1 hb1
  have Ho := Lib.hid h0
  have Hm := Lib.hid hmany
  have Hw := Lib.hid hbw
  clear h0
  go_wp2
  clear hmany
  go_loopw [18] (fun i wr => ∃ k : Nat, k ≤ l.length ∧ i = .int .i64 k ∧ (∀ j, j < k → cutC costs.length (cut l j).ops = 0) ∧ Below w.heap.size w wr) (fun i _ => l.length - (intOf i).toNat)
  case atStart => exact ⟨0, by omega, rfl, fun j hj => absurd hj (by omega), by first | exact Hw.out | exact bel⟩
  case round =>
   obtain ⟨k, hk, rfl, hok, hbel⟩ := hrel
   have Hok := Lib.hid hok
   clear hok
   by_cases hlt : k < l.length
   ·obtain ⟨b, o, S, c, ea, hb, d0, hS, d1⟩ := h2.at2 hbel hlt
    subst ea
    have hbz := hbel.size
    have g2 : b < wr.heap.size := by omega
    have j1 := hS.len
    by_cases q0 : (cut l k).ops.length = 0
    ·have He := Lib.hid (show chk38 costs l = 3 by rw [chk_cuts Ho.out Hm.out, cutsC_at hlt Hok.out (by rw [cutC_none q0]; decide), cutC_none q0])
     rw [q0] at d0
     clear q0
     go_wp2
     go_ret
     exact ⟨by rw [He.out]; rfl, by exact bel⟩
    ·have q1 : ((cut l k).ops.length == 0) = false := by simpa using q0
     have Hq := Lib.hid q0
     clear q0
     have q2 : (0 : Int) < ((cut l k).ops.length : Int) := by have := Hq.out; omega
     have q3 : (((cut l k).ops.length : Int) == 0) = false := by have := Hq.out; rw [beq_eq_false_iff_ne]; omega
     go_wp2
     have Hup := fun X (hx : Below (wr.heap.size + 1) (wr.alloc (.cells #[.slice S (cut l k).ops.length c, .int .i64 (cut l k).cost] 41)) X) => hbel.trans (Below.trans (Below.alloc (Below.refl w.heap.size wr) hbz _) (hx.mono (by omega)))
     have Hbx := fun X (hx : Below (wr.heap.size + 1) (wr.alloc (.cells #[.slice S (cut l k).ops.length c, .int .i64 (cut l k).cost] 41)) X) => (hx.cell (p := ⟨wr.heap.size, 0, none⟩) (by show wr.heap.size < _; omega)).trans (show _ = some (Value.slice S (cut l k).ops.length c) by simp)
     go_loopw [30] (fun i wx => ∃ j : Nat, j ≤ (cut l k).ops.length ∧ i = .int .i64 j ∧ anyB j (badK costs.length (cut l k).ops) = false ∧ Below (wr.heap.size + 1) (wr.alloc (.cells #[.slice S (cut l k).ops.length c, .int .i64 (cut l k).cost] 41)) wx) (fun i _ => (cut l k).ops.length - (intOf i).toNat)
     case atStart => exact ⟨0, by omega, rfl, rfl, by first | exact Below.refl _ _ | (simpa using Below.refl _ _)⟩
     case round =>
      obtain ⟨j, hj, rfl, hno, hbx⟩ := hrel
      have Hno := Lib.hid hno
      clear hno
      have hbw2 := Hup _ hbx
      have x0 := Hbx _ hbx
      have hbz2 := hbw2.size
      by_cases hltj : j < (cut l k).ops.length
      ·obtain ⟨b', o', eS, hb', hc'⟩ := hS.at_ hltj
       subst eS
       have d5 := (hbw2.cell (p := ⟨b', o' + j, none⟩) hb').trans (hc' j hltj)
       have Hbad := Lib.hid (fun (h : badK costs.length (cut l k).ops j = true) => show chk38 costs l = 2 by rw [chk_cuts Ho.out Hm.out, cutsC_at hlt Hok.out (by rw [cutC_bad hltj h]; decide), cutC_bad hltj h])
       by_cases q4 : nth (cut l k).ops j < 0
       ·have e4 : decide (nth (cut l k).ops j < 0) = true := by simpa using q4
        have He := Lib.hid (Hbad.out (by unfold badK; rw [e4]; rfl))
        go_wp2
        go_ret
        exact ⟨by rw [He.out]; rfl, hbw2⟩
       have e4 : decide (nth (cut l k).ops j < 0) = false := by simpa using q4
       by_cases q5 : (costs.length : Int) ≤ nth (cut l k).ops j
       ·have e5 : decide ((costs.length : Int) ≤ nth (cut l k).ops j) = true := by simpa using q5
        have He := Lib.hid (Hbad.out (by unfold badK; rw [e4, e5]; rfl))
        go_wp2
        go_ret
        exact ⟨by rw [He.out]; rfl, hbw2⟩
       have e5 : decide ((costs.length : Int) ≤ nth (cut l k).ops j) = false := by simpa using q5
       by_cases k0 : 0 < j
       ·have z0 : decide ((0 : Int) < (j : Int)) = true := by simpa using k0
        have z1 : (1 : Int) ≤ j := by omega
        have d6 := (hbw2.cell (p := ⟨b', o' + (j - 1), none⟩) hb').trans (hc' (j - 1) (by omega))
        by_cases q6 : nth (cut l k).ops j ≤ nth (cut l k).ops (j - 1)
        ·have e6 : decide (nth (cut l k).ops j ≤ nth (cut l k).ops (j - 1)) = true := by simpa using q6
         have He := Lib.hid (Hbad.out (by unfold badK; rw [e6]; simp [k0]))
         go_wp2
         go_ret
         exact ⟨by rw [He.out]; rfl, hbw2⟩
        have e6 : decide (nth (cut l k).ops j ≤ nth (cut l k).ops (j - 1)) = false := by simpa using q6
        go_wp2
        go_roundw
        case rel => exact ⟨j + 1, by omega, by go_num, (by rw [anyB_succ, Hno.out]; unfold badK; rw [e4, e5, e6]; simp), hbx⟩
        case measure => simp [intOf]; omega
       ·have z0 : decide ((0 : Int) < (j : Int)) = false := by simpa using k0
        go_wp2
        go_roundw
        case rel => exact ⟨j + 1, by omega, by go_num, (by rw [anyB_succ, Hno.out]; unfold badK; rw [e4, e5]; simp; omega), hbx⟩
        case measure => simp [intOf]; omega
      ·have Hg := Lib.hid (show cutC costs.length (cut l k).ops = 0 from cutC_good Hq.out (by rw [show (cut l k).ops.length = j by omega]; exact Hno.out))
       go_wp2
       go_roundw
       case rel => exact ⟨k + 1, by omega, by go_num, (fun i hi => by rcases Nat.lt_succ_iff_lt_or_eq.1 hi with h | rfl; exact Hok.out i h; exact Hg.out), hbw2⟩
       case measure => simp [intOf]; omega
   ·have He := Lib.hid (show chk38 costs l = 0 by rw [chk_cuts Ho.out Hm.out, cutsC_all (fun j hj => Hok.out j (by omega))])
    go_wp2
    go_ret
    exact ⟨by rw [He.out]; rfl, by exact bel⟩
 ·rw [h0] at k1
  have He := Lib.hid (chk_off (l := l) h0)
  go_enter Tryz.func25, Tryz.ntmps25
  go_wp2_with fail; refine (k1 _ (by exact bel)).mono ?_; rintro e w1 ⟨rfl, hb1⟩; obtain ⟨hc1, hf1, hz1, hlt1, hle1⟩ := cellsIf hb1 (by (try simp); exact rfl); (try have := s00 w w1); (try have := s01 w w1); (try have := s02 w w1); (try have := s10 w w1); (try have := s11 w w1); (try have := s12 w w1); (try have := s20 w w1); (try have := s21 w w1); (try have := s22 w w1)
  go_wp2
  go_ret
  exact ⟨by rw [He.out]; rfl, by exact bel⟩

end Go.Proofs.YtaampjhdgeoicaaGreat

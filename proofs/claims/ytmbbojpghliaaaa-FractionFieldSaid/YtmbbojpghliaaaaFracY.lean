/- The law FractionField. -/
import Derived.Test.YtmbbojpghliaaaaFracX
import Derived.Test.YtmbbojpghliaaaaFracL
namespace Go.Proofs.Ytmbbojpghliaaaa
set_option linter.unusedSimpArgs false
set_option linter.unusedVariables false
open Go.RowKit
set_option linter.unusedVariables false

/-- An array of three fractions of the call's own in block b. -/
structure Arr6 (w : World) (b : Nat) (x0 x1 y0 y1 z0 z1 : Int) : Prop where
  lt : b < w.heap.size
  c0 : w.cell? ⟨b, 0, none⟩ = some (.int .i64 x0)
  c1 : w.cell? ⟨b, 1, none⟩ = some (.int .i64 x1)
  c2 : w.cell? ⟨b, 2, none⟩ = some (.int .i64 y0)
  c3 : w.cell? ⟨b, 3, none⟩ = some (.int .i64 y1)
  c4 : w.cell? ⟨b, 4, none⟩ = some (.int .i64 z0)
  c5 : w.cell? ⟨b, 5, none⟩ = some (.int .i64 z1)
  fr : ∀ o, w.frozen? ⟨b, o, none⟩ = false
section
variable {w w' : World} {b b' : Nat} {x0 x1 y0 y1 z0 z1 p q : Int}
theorem Arr6.up (h : Arr6 w b x0 x1 y0 y1 z0 z1) (hb : Below w.heap.size w w') : Arr6 w' b x0 x1 y0 y1 z0 z1 :=
  ⟨Nat.lt_of_lt_of_le h.lt hb.size, (hb.cell (p := ⟨b, 0, none⟩) h.lt).trans h.c0, (hb.cell (p := ⟨b, 1, none⟩) h.lt).trans h.c1, (hb.cell (p := ⟨b, 2, none⟩) h.lt).trans h.c2, (hb.cell (p := ⟨b, 3, none⟩) h.lt).trans h.c3, (hb.cell (p := ⟨b, 4, none⟩) h.lt).trans h.c4, (hb.cell (p := ⟨b, 5, none⟩) h.lt).trans h.c5, fun o => (hb.frozen (p := ⟨b, o, none⟩) h.lt).trans (h.fr o)⟩
theorem Arr6.alloc (h : Arr6 w b x0 x1 y0 y1 z0 z1) (o : Obj) : Arr6 (w.alloc o) b x0 x1 y0 y1 z0 z1 := h.up ((Below.refl _ _).alloc (Nat.le_refl _) _)
theorem Arr6.new {T : TypeId} : Arr6 (w.alloc (.cells #[.int .i64 x0, .int .i64 x1, .int .i64 y0, .int .i64 y1, .int .i64 z0, .int .i64 z1] T)) w.heap.size x0 x1 y0 y1 z0 z1 := by constructor <;> simp
theorem set_ne {v : Value} {b i j : Nat} (h : i ≠ j) : (w.setCell ⟨b, i, none⟩ v).cell? ⟨b, j, none⟩ = w.cell? ⟨b, j, none⟩ := World.cell?_setCell_other _ _ _ _ (by simp [h])
theorem set_eq {u v : Value} {b i : Nat} (h : w.cell? ⟨b, i, none⟩ = some u) : (w.setCell ⟨b, i, none⟩ v).cell? ⟨b, i, none⟩ = some v := World.cell?_setCell_same _ _ _ h
theorem Arr6.put0 (h : Arr6 w b x0 x1 y0 y1 z0 z1) : Arr6 ((w.setCell ⟨b, 0, none⟩ (.int .i64 p)).setCell ⟨b, 1, none⟩ (.int .i64 q)) b p q y0 y1 z0 z1 := by
  refine ⟨by simpa using h.lt, ?_, ?_, ?_, ?_, ?_, ?_, fun o => by simpa using h.fr o⟩
  · rw [set_ne (by omega)]; exact set_eq h.c0
  · exact set_eq (by rw [set_ne (by omega)]; exact h.c1)
  all_goals rw [set_ne (by omega), set_ne (by omega)]
  all_goals first | exact h.c2 | exact h.c3 | exact h.c4 | exact h.c5
theorem Arr6.put1 (h : Arr6 w b x0 x1 y0 y1 z0 z1) : Arr6 ((w.setCell ⟨b, 2, none⟩ (.int .i64 p)).setCell ⟨b, 3, none⟩ (.int .i64 q)) b x0 x1 p q z0 z1 := by
  refine ⟨by simpa using h.lt, ?_, ?_, ?_, ?_, ?_, ?_, fun o => by simpa using h.fr o⟩
  · rw [set_ne (by omega), set_ne (by omega)]; exact h.c0
  · rw [set_ne (by omega), set_ne (by omega)]; exact h.c1
  · rw [set_ne (by omega)]; exact set_eq h.c2
  · exact set_eq (by rw [set_ne (by omega)]; exact h.c3)
  all_goals rw [set_ne (by omega), set_ne (by omega)]
  all_goals first | exact h.c4 | exact h.c5
theorem Arr6.put2 (h : Arr6 w b x0 x1 y0 y1 z0 z1) : Arr6 ((w.setCell ⟨b, 4, none⟩ (.int .i64 p)).setCell ⟨b, 5, none⟩ (.int .i64 q)) b x0 x1 y0 y1 p q := by
  refine ⟨by simpa using h.lt, ?_, ?_, ?_, ?_, ?_, ?_, fun o => by simpa using h.fr o⟩
  · rw [set_ne (by omega), set_ne (by omega)]; exact h.c0
  · rw [set_ne (by omega), set_ne (by omega)]; exact h.c1
  · rw [set_ne (by omega), set_ne (by omega)]; exact h.c2
  · rw [set_ne (by omega), set_ne (by omega)]; exact h.c3
  · rw [set_ne (by omega)]; exact set_eq h.c4
  · exact set_eq (by rw [set_ne (by omega)]; exact h.c5)
theorem Arr6.other (h : Arr6 w b x0 x1 y0 y1 z0 z1) (hb : b' ≠ b) {x y : Value} {i j : Nat} : Arr6 ((w.setCell ⟨b', i, none⟩ x).setCell ⟨b', j, none⟩ y) b x0 x1 y0 y1 z0 z1 := by
  have hn : ∀ (X : World) i j v, (X.setCell ⟨b', i, none⟩ v).cell? ⟨b, j, none⟩ = X.cell? ⟨b, j, none⟩ := fun X i j v => World.cell?_setCell_other _ _ _ _ (by simp [hb])
  refine ⟨by simpa using h.lt, ?_, ?_, ?_, ?_, ?_, ?_, fun o => by simpa using h.fr o⟩
  all_goals rw [hn, hn]
  all_goals first | exact h.c0 | exact h.c1 | exact h.c2 | exact h.c3 | exact h.c4 | exact h.c5
end

section
variable {w : World} {p q : Int} {T : TypeId} {X Y : Obj}
theorem own_p0 : Own2 (((w.alloc (.cells #[.int .i64 p, .int .i64 q] T)).alloc X).alloc Y).drew w.heap.size p q := ((Own2.new.alloc _).alloc _).drew
theorem own_p1 : Own2 (((w.alloc X).alloc (.cells #[.int .i64 p, .int .i64 q] T)).alloc Y).drew (w.heap.size + 1) p q := by
  have h := ((Own2.new (w := w.alloc X) (n := p) (d := q) (T := T)).alloc Y).drew
  simpa using h
theorem own_p2 : Own2 (((w.alloc X).alloc Y).alloc (.cells #[.int .i64 p, .int .i64 q] T)).drew (w.heap.size + 1 + 1) p q := by
  have h := (Own2.new (w := (w.alloc X).alloc Y) (n := p) (d := q) (T := T)).drew
  simpa using h
end

set_option maxRecDepth 4000 in
set_option maxHeartbeats 8000000 in
theorem fractionField_any (n0 n1 n2 d0 d1 d2 : Int) (w : World) (h0 : -128 ≤ n0 ∧ n0 ≤ 127) (h1 : -128 ≤ n1 ∧ n1 ≤ 127) (h2 : -128 ≤ n2 ∧ n2 ≤ 127) (g0 : 0 ≤ d0 ∧ d0 ≤ 255) (g1 : 0 ≤ d1 ∧ d1 ≤ 255) (g2 : 0 ≤ d2 ∧ d2 ≤ 255) :
    Calls Try.prog 7 #[.agg #[.int .i8 n0, .int .i8 n1, .int .i8 n2], .agg #[.int .u8 d0, .int .u8 d1, .int .u8 d2]] w fun e w' => e = .returned (.bool true) ∧ Below w.heap.size w w' := by
  have k0 := fun w1 => awake_any w1
  obtain ⟨f, hf⟩ := field_facts n0 n1 n2 (1 + d0 % 60) (1 + d1 % 60) (1 + d2 % 60) h0 h1 h2 (by omega) (by omega) (by omega)
  have m0 := fun W => new_any n0 (1 + d0 % 60) W (by omega) (by omega) (by omega) (by omega)
  have m1 := fun W => new_any n1 (1 + d1 % 60) W (by omega) (by omega) (by omega) (by omega)
  have m2 := fun W => new_any n2 (1 + d2 % 60) W (by omega) (by omega) (by omega) (by omega)
  unfold RetFE at m0 m1 m2
  rw [hf.n0] at m0
  rw [hf.n1] at m1
  rw [hf.n2] at m2
  simp only [errV_0] at m0 m1 m2
  obtain ⟨a1, a2, b1, b2, c1, c2, x1, x2, y1, y2, l1, l2, p1, p2, r1, r2, s1, s2, u1, u2⟩ := f
  dsimp only at m0 m1 m2
  have Hf := Lib.hid hf
  clear hf
  go_enter Try.func7, Try.ntmps7
  go_wp2_with fail; refine (k0 _).mono ?_; rintro e w1 ⟨rfl, hb1⟩; obtain ⟨hc1, hf1, hz1, hlt1, hle1⟩ := cellsIf hb1 (by (try simp); exact rfl); (try have : w.heap.size < w1.heap.size := (by omega)); (try have : w.heap.size < w1.heap.size + 1 := (by omega)); (try have : w.heap.size < w1.heap.size + 1 + 1 := (by omega)); (try have : w.heap.size + 1 < w1.heap.size := (by omega)); (try have : w.heap.size + 1 < w1.heap.size + 1 := (by omega)); (try have : w.heap.size + 1 < w1.heap.size + 1 + 1 := (by omega)); (try have : w.heap.size + 1 + 1 < w1.heap.size := (by omega)); (try have : w.heap.size + 1 + 1 < w1.heap.size + 1 := (by omega)); (try have : w.heap.size + 1 + 1 < w1.heap.size + 1 + 1 := (by omega))
  have hbx : Below w.heap.size w w1 := by repeat (first | exact Below.refl _ _ | refine below_dN ?_ _ | refine Below.drew ?_ | refine Below.alloc ?_ (by first | omega | (simp; done) | (simp; omega)) _ | refine Below.setCell ?_ (by first | omega | (simp; done) | (simp; omega)) _ | refine below_step (by assumption) (by first | omega | (simp; done) | (simp; omega)) ?_)
  have n00 : w1.cell? ⟨w.heap.size, 0, none⟩ = some (.int .i8 n0) := (hb1.cell (p := ⟨w.heap.size, 0, none⟩) (by first | (simp; done) | (simp; omega))).trans (by simp)
  have n01 : w1.cell? ⟨w.heap.size, 1, none⟩ = some (.int .i8 n1) := (hb1.cell (p := ⟨w.heap.size, 1, none⟩) (by first | (simp; done) | (simp; omega))).trans (by simp)
  have n02 : w1.cell? ⟨w.heap.size, 2, none⟩ = some (.int .i8 n2) := (hb1.cell (p := ⟨w.heap.size, 2, none⟩) (by first | (simp; done) | (simp; omega))).trans (by simp)
  have d00 : w1.cell? ⟨w.heap.size + 1, 0, none⟩ = some (.int .u8 d0) := (hb1.cell (p := ⟨w.heap.size + 1, 0, none⟩) (by first | (simp; done) | (simp; omega))).trans (by simp)
  have d01 : w1.cell? ⟨w.heap.size + 1, 1, none⟩ = some (.int .u8 d1) := (hb1.cell (p := ⟨w.heap.size + 1, 1, none⟩) (by first | (simp; done) | (simp; omega))).trans (by simp)
  have d02 : w1.cell? ⟨w.heap.size + 1, 2, none⟩ = some (.int .u8 d2) := (hb1.cell (p := ⟨w.heap.size + 1, 2, none⟩) (by first | (simp; done) | (simp; omega))).trans (by simp)
  have z1 : w.heap.size + 2 ≤ w1.heap.size := by simpa using hz1
  clear hc1 hf1 hz1 hlt1 hle1 hb1
  go_wp2
  go_loopw [32] (fun i wr => ∃ (k : Nat) (X0 X1 Y0 Y1 Z0 Z1 : Int), k ≤ 3 ∧ i = .int .i64 k ∧ Arr6 wr w1.heap.size X0 X1 Y0 Y1 Z0 Z1 ∧ (1 ≤ k → X0 = a1 ∧ X1 = a2) ∧ (2 ≤ k → Y0 = b1 ∧ Y1 = b2) ∧ (3 ≤ k → Z0 = c1 ∧ Z1 = c2) ∧ Below w1.heap.size w1 wr) (fun i _ => 3 - (intOf i).toNat)
  case atStart => exact ⟨0, _, _, _, _, _, _, by omega, rfl, Arr6.new, fun h => absurd h (by omega), fun h => absurd h (by omega), fun h => absurd h (by omega), by repeat (first | exact Below.refl _ _ | refine below_dN ?_ _ | refine Below.drew ?_ | refine Below.alloc ?_ (by first | omega | (simp; done) | (simp; omega)) _ | refine Below.setCell ?_ (by first | omega | (simp; done) | (simp; omega)) _ | refine below_step (by assumption) (by first | omega | (simp; done) | (simp; omega)) ?_)⟩
  case round =>
    obtain ⟨k, X0, X1, Y0, Y1, Z0, Z1, hk, rfl, harr, hX, hY, hZ, hbel⟩ := hrel
    have Harr := Lib.hid harr
    have HX := Lib.hid hX
    have HY := Lib.hid hY
    have HZ := Lib.hid hZ
    clear hX hY hZ
    obtain ⟨q0, q1, q2, q3, q4, q5, q6, q7⟩ := harr
    have hcase : k = 0 ∨ k = 1 ∨ k = 2 ∨ k = 3 := by omega
    rcases hcase with rfl | rfl | rfl | rfl
    · have t00 := (hbel.cell (p := ⟨w.heap.size, 0, none⟩) (by show w.heap.size < _; omega)).trans n00
      have t10 := (hbel.cell (p := ⟨w.heap.size + 1, 0, none⟩) (by show w.heap.size + 1 < _; omega)).trans d00
      have e0 : d0.tmod 60 = d0 % 60 := IntWalk.rem_in _ _ g0.1
      have e1 : IntKind.i64.wrap (1 + d0 % 60) = 1 + d0 % 60 := IntWalk.i64_in _ (by omega)
      have e2 : IntKind.i64.wrap n0 = n0 := IntWalk.i64_in _ (by omega)
      have e3 : IntKind.i64.wrap (d0 % 60) = d0 % 60 := IntWalk.i64_in _ (by omega)
      have hbz := hbel.size
      have g5 : w.heap.size < wr.heap.size := by omega
      have g6 : w.heap.size + 1 < wr.heap.size := by omega
      go_upto_region 7 with fail
      go_cut [7, 8] (fun v6 v7 wx => ∃ b6, v6 = .pointer (some ⟨b6, 0, none⟩) ∧ v7 = .nilIface ∧ Own2 wx b6 a1 a2 ∧ Arr6 wx w1.heap.size X0 X1 Y0 Y1 Z0 Z1 ∧ w1.heap.size < b6 ∧ Below w1.heap.size w1 wx)
      case first =>
        go_wp2_with fail
        go_region_held3 (fun w' => w'.cell? ⟨w.heap.size, 0, none⟩ = some (.int .i8 n0) ∧ w'.cell? ⟨w.heap.size + 1, 0, none⟩ = some (.int .u8 d0)) (first | go_keep | (refine ⟨?_, ?_⟩ <;> (first | assumption | (rw [World.cell?_setCell_other _ _ _ _ (by first | (simp; done) | (simp; omega)), World.cell?_setCell_other _ _ _ _ (by first | (simp; done) | (simp; omega))]; assumption)))) (first | (go_at_call 10; refine (m0 _).mono ?_; rintro e w2 ⟨rfl, hb2⟩; have hbw2 : Below wr.heap.size wr w2 := (by repeat (first | exact Below.refl _ _ | refine below_dN ?_ _ | refine Below.drew ?_ | refine Below.alloc ?_ (by first | omega | (simp; done) | (simp; omega)) _ | refine Below.setCell ?_ (by first | omega | (simp; done) | (simp; omega)) _ | refine below_step (by assumption) (by first | omega | (simp; done) | (simp; omega)) ?_)); have y1 := (hbw2.cell (p := ⟨w.heap.size, 0, none⟩) g5).trans t00; have y2 := (hbw2.cell (p := ⟨w.heap.size + 1, 0, none⟩) g6).trans t10; have y3 := hbw2.size; obtain ⟨hc2, hf2, hz2, hlt2, hle2⟩ := cellsIf hb2 (by (try simp); exact rfl)))
        all_goals (go_wp2; go_meet)
        all_goals first
          | exact ⟨_, rfl, rfl, Own2.new, (Harr.out.up hbw2).alloc _, by omega, by repeat (first | exact Below.refl _ _ | refine below_dN ?_ _ | refine Below.drew ?_ | refine Below.alloc ?_ (by first | omega | (simp; done) | (simp; omega)) _ | refine Below.setCell ?_ (by first | omega | (simp; done) | (simp; omega)) _ | refine below_step (by assumption) (by first | omega | (simp; done) | (simp; omega)) ?_)⟩
          | exact ⟨_, rfl, rfl, Own2.put (Own2.up (Own2.drew Own2.new) hb2), (Harr.out.up hbw2).other (by omega), by omega, by repeat (first | exact Below.refl _ _ | refine below_dN ?_ _ | refine Below.drew ?_ | refine Below.alloc ?_ (by first | omega | (simp; done) | (simp; omega)) _ | refine Below.setCell ?_ (by first | omega | (simp; done) | (simp; omega)) _ | refine below_step (by assumption) (by first | omega | (simp; done) | (simp; omega)) ?_)⟩
      case rest =>
        clear e0 e1 e2 e3 q0 q1 q2 q3 q4 q5 q6 q7
        obtain ⟨b6, rfl, rfl, ho6, harr', hb6, hbel'⟩ := hcut
        obtain ⟨o0, o1, o2, o3, o4⟩ := ho6
        obtain ⟨q0, q1, q2, q3, q4, q5, q6, q7⟩ := id harr'
        go_wp2
        go_roundw
        case rel => exact ⟨1, a1, a2, Y0, Y1, Z0, Z1, by omega, by go_num, (harr'.put0), fun _ => ⟨rfl, rfl⟩, fun h => absurd h (by omega), fun h => absurd h (by omega), by repeat (first | exact Below.refl _ _ | refine below_dN ?_ _ | refine Below.drew ?_ | refine Below.alloc ?_ (by first | omega | (simp; done) | (simp; omega)) _ | refine Below.setCell ?_ (by first | omega | (simp; done) | (simp; omega)) _ | refine below_step (by assumption) (by first | omega | (simp; done) | (simp; omega)) ?_)⟩
        case measure => simp [intOf]
    · have t00 := (hbel.cell (p := ⟨w.heap.size, 1, none⟩) (by show w.heap.size < _; omega)).trans n01
      have t10 := (hbel.cell (p := ⟨w.heap.size + 1, 1, none⟩) (by show w.heap.size + 1 < _; omega)).trans d01
      have e0 : d1.tmod 60 = d1 % 60 := IntWalk.rem_in _ _ g1.1
      have e1 : IntKind.i64.wrap (1 + d1 % 60) = 1 + d1 % 60 := IntWalk.i64_in _ (by omega)
      have e2 : IntKind.i64.wrap n1 = n1 := IntWalk.i64_in _ (by omega)
      have e3 : IntKind.i64.wrap (d1 % 60) = d1 % 60 := IntWalk.i64_in _ (by omega)
      have hbz := hbel.size
      have g5 : w.heap.size < wr.heap.size := by omega
      have g6 : w.heap.size + 1 < wr.heap.size := by omega
      go_upto_region 7 with fail
      go_cut [7, 8] (fun v6 v7 wx => ∃ b6, v6 = .pointer (some ⟨b6, 0, none⟩) ∧ v7 = .nilIface ∧ Own2 wx b6 b1 b2 ∧ Arr6 wx w1.heap.size X0 X1 Y0 Y1 Z0 Z1 ∧ w1.heap.size < b6 ∧ Below w1.heap.size w1 wx)
      case first =>
        go_wp2_with fail
        go_region_held3 (fun w' => w'.cell? ⟨w.heap.size, 1, none⟩ = some (.int .i8 n1) ∧ w'.cell? ⟨w.heap.size + 1, 1, none⟩ = some (.int .u8 d1)) (first | go_keep | (refine ⟨?_, ?_⟩ <;> (first | assumption | (rw [World.cell?_setCell_other _ _ _ _ (by first | (simp; done) | (simp; omega)), World.cell?_setCell_other _ _ _ _ (by first | (simp; done) | (simp; omega))]; assumption)))) (first | (go_at_call 10; refine (m1 _).mono ?_; rintro e w2 ⟨rfl, hb2⟩; have hbw2 : Below wr.heap.size wr w2 := (by repeat (first | exact Below.refl _ _ | refine below_dN ?_ _ | refine Below.drew ?_ | refine Below.alloc ?_ (by first | omega | (simp; done) | (simp; omega)) _ | refine Below.setCell ?_ (by first | omega | (simp; done) | (simp; omega)) _ | refine below_step (by assumption) (by first | omega | (simp; done) | (simp; omega)) ?_)); have y1 := (hbw2.cell (p := ⟨w.heap.size, 1, none⟩) g5).trans t00; have y2 := (hbw2.cell (p := ⟨w.heap.size + 1, 1, none⟩) g6).trans t10; have y3 := hbw2.size; obtain ⟨hc2, hf2, hz2, hlt2, hle2⟩ := cellsIf hb2 (by (try simp); exact rfl)))
        all_goals (go_wp2; go_meet)
        all_goals first
          | exact ⟨_, rfl, rfl, Own2.new, (Harr.out.up hbw2).alloc _, by omega, by repeat (first | exact Below.refl _ _ | refine below_dN ?_ _ | refine Below.drew ?_ | refine Below.alloc ?_ (by first | omega | (simp; done) | (simp; omega)) _ | refine Below.setCell ?_ (by first | omega | (simp; done) | (simp; omega)) _ | refine below_step (by assumption) (by first | omega | (simp; done) | (simp; omega)) ?_)⟩
          | exact ⟨_, rfl, rfl, Own2.put (Own2.up (Own2.drew Own2.new) hb2), (Harr.out.up hbw2).other (by omega), by omega, by repeat (first | exact Below.refl _ _ | refine below_dN ?_ _ | refine Below.drew ?_ | refine Below.alloc ?_ (by first | omega | (simp; done) | (simp; omega)) _ | refine Below.setCell ?_ (by first | omega | (simp; done) | (simp; omega)) _ | refine below_step (by assumption) (by first | omega | (simp; done) | (simp; omega)) ?_)⟩
      case rest =>
        clear e0 e1 e2 e3 q0 q1 q2 q3 q4 q5 q6 q7
        obtain ⟨b6, rfl, rfl, ho6, harr', hb6, hbel'⟩ := hcut
        obtain ⟨o0, o1, o2, o3, o4⟩ := ho6
        obtain ⟨q0, q1, q2, q3, q4, q5, q6, q7⟩ := id harr'
        go_wp2
        go_roundw
        case rel => exact ⟨2, X0, X1, b1, b2, Z0, Z1, by omega, by go_num, (harr'.put1), fun _ => HX.out (by omega), fun _ => ⟨rfl, rfl⟩, fun h => absurd h (by omega), by repeat (first | exact Below.refl _ _ | refine below_dN ?_ _ | refine Below.drew ?_ | refine Below.alloc ?_ (by first | omega | (simp; done) | (simp; omega)) _ | refine Below.setCell ?_ (by first | omega | (simp; done) | (simp; omega)) _ | refine below_step (by assumption) (by first | omega | (simp; done) | (simp; omega)) ?_)⟩
        case measure => simp [intOf]
    · have t00 := (hbel.cell (p := ⟨w.heap.size, 2, none⟩) (by show w.heap.size < _; omega)).trans n02
      have t10 := (hbel.cell (p := ⟨w.heap.size + 1, 2, none⟩) (by show w.heap.size + 1 < _; omega)).trans d02
      have e0 : d2.tmod 60 = d2 % 60 := IntWalk.rem_in _ _ g2.1
      have e1 : IntKind.i64.wrap (1 + d2 % 60) = 1 + d2 % 60 := IntWalk.i64_in _ (by omega)
      have e2 : IntKind.i64.wrap n2 = n2 := IntWalk.i64_in _ (by omega)
      have e3 : IntKind.i64.wrap (d2 % 60) = d2 % 60 := IntWalk.i64_in _ (by omega)
      have hbz := hbel.size
      have g5 : w.heap.size < wr.heap.size := by omega
      have g6 : w.heap.size + 1 < wr.heap.size := by omega
      go_upto_region 7 with fail
      go_cut [7, 8] (fun v6 v7 wx => ∃ b6, v6 = .pointer (some ⟨b6, 0, none⟩) ∧ v7 = .nilIface ∧ Own2 wx b6 c1 c2 ∧ Arr6 wx w1.heap.size X0 X1 Y0 Y1 Z0 Z1 ∧ w1.heap.size < b6 ∧ Below w1.heap.size w1 wx)
      case first =>
        go_wp2_with fail
        go_region_held3 (fun w' => w'.cell? ⟨w.heap.size, 2, none⟩ = some (.int .i8 n2) ∧ w'.cell? ⟨w.heap.size + 1, 2, none⟩ = some (.int .u8 d2)) (first | go_keep | (refine ⟨?_, ?_⟩ <;> (first | assumption | (rw [World.cell?_setCell_other _ _ _ _ (by first | (simp; done) | (simp; omega)), World.cell?_setCell_other _ _ _ _ (by first | (simp; done) | (simp; omega))]; assumption)))) (first | (go_at_call 10; refine (m2 _).mono ?_; rintro e w2 ⟨rfl, hb2⟩; have hbw2 : Below wr.heap.size wr w2 := (by repeat (first | exact Below.refl _ _ | refine below_dN ?_ _ | refine Below.drew ?_ | refine Below.alloc ?_ (by first | omega | (simp; done) | (simp; omega)) _ | refine Below.setCell ?_ (by first | omega | (simp; done) | (simp; omega)) _ | refine below_step (by assumption) (by first | omega | (simp; done) | (simp; omega)) ?_)); have y1 := (hbw2.cell (p := ⟨w.heap.size, 2, none⟩) g5).trans t00; have y2 := (hbw2.cell (p := ⟨w.heap.size + 1, 2, none⟩) g6).trans t10; have y3 := hbw2.size; obtain ⟨hc2, hf2, hz2, hlt2, hle2⟩ := cellsIf hb2 (by (try simp); exact rfl)))
        all_goals (go_wp2; go_meet)
        all_goals first
          | exact ⟨_, rfl, rfl, Own2.new, (Harr.out.up hbw2).alloc _, by omega, by repeat (first | exact Below.refl _ _ | refine below_dN ?_ _ | refine Below.drew ?_ | refine Below.alloc ?_ (by first | omega | (simp; done) | (simp; omega)) _ | refine Below.setCell ?_ (by first | omega | (simp; done) | (simp; omega)) _ | refine below_step (by assumption) (by first | omega | (simp; done) | (simp; omega)) ?_)⟩
          | exact ⟨_, rfl, rfl, Own2.put (Own2.up (Own2.drew Own2.new) hb2), (Harr.out.up hbw2).other (by omega), by omega, by repeat (first | exact Below.refl _ _ | refine below_dN ?_ _ | refine Below.drew ?_ | refine Below.alloc ?_ (by first | omega | (simp; done) | (simp; omega)) _ | refine Below.setCell ?_ (by first | omega | (simp; done) | (simp; omega)) _ | refine below_step (by assumption) (by first | omega | (simp; done) | (simp; omega)) ?_)⟩
      case rest =>
        clear e0 e1 e2 e3 q0 q1 q2 q3 q4 q5 q6 q7
        obtain ⟨b6, rfl, rfl, ho6, harr', hb6, hbel'⟩ := hcut
        obtain ⟨o0, o1, o2, o3, o4⟩ := ho6
        obtain ⟨q0, q1, q2, q3, q4, q5, q6, q7⟩ := id harr'
        go_wp2
        go_roundw
        case rel => exact ⟨3, X0, X1, Y0, Y1, c1, c2, by omega, by go_num, (harr'.put2), fun _ => HX.out (by omega), fun _ => HY.out (by omega), fun _ => ⟨rfl, rfl⟩, by repeat (first | exact Below.refl _ _ | refine below_dN ?_ _ | refine Below.drew ?_ | refine Below.alloc ?_ (by first | omega | (simp; done) | (simp; omega)) _ | refine Below.setCell ?_ (by first | omega | (simp; done) | (simp; omega)) _ | refine below_step (by assumption) (by first | omega | (simp; done) | (simp; omega)) ?_)⟩
        case measure => simp [intOf]
    · obtain ⟨rfl, rfl⟩ := HX.out (by omega)
      obtain ⟨rfl, rfl⟩ := HY.out (by omega)
      obtain ⟨rfl, rfl⟩ := HZ.out (by omega)
      have hbw0 : Below w.heap.size w wr := hbx.trans (hbel.mono (by omega))
      have hbz := hbel.size
      have g7 : w1.heap.size < wr.heap.size := Harr.out.lt
      go_upto_region 12 with fail
      go_cut [9, 10, 11] (fun v9 v10 v11 wx => ∃ A B C, v9 = .pointer (some ⟨A, 0, none⟩) ∧ v10 = .pointer (some ⟨B, 0, none⟩) ∧ v11 = .pointer (some ⟨C, 0, none⟩) ∧ Own2 wx A X0 X1 ∧ Own2 wx B Y0 Y1 ∧ Own2 wx C Z0 Z1 ∧ Below w.heap.size w wx)
      case first =>
        go_wp2_with fail
        go_region_held3 (fun w' => w'.cell? ⟨w1.heap.size, 0, none⟩ = some (.int .i64 X0) ∧ w'.cell? ⟨w1.heap.size, 1, none⟩ = some (.int .i64 X1) ∧ w'.cell? ⟨w1.heap.size, 2, none⟩ = some (.int .i64 Y0) ∧ w'.cell? ⟨w1.heap.size, 3, none⟩ = some (.int .i64 Y1) ∧ w'.cell? ⟨w1.heap.size, 4, none⟩ = some (.int .i64 Z0) ∧ w'.cell? ⟨w1.heap.size, 5, none⟩ = some (.int .i64 Z1)) (first | (refine ⟨?_, ?_, ?_, ?_, ?_, ?_⟩ <;> (first | assumption | exact ((show Below wr.heap.size wr _ by repeat (first | exact Below.refl _ _ | refine below_dN ?_ _ | refine Below.drew ?_ | refine Below.alloc ?_ (by first | omega | (simp; done) | (simp; omega)) _ | refine Below.setCell ?_ (by first | omega | (simp; done) | (simp; omega)) _ | refine below_step (by assumption) (by first | omega | (simp; done) | (simp; omega)) ?_)).cell g7).trans (by assumption))) | go_keep) (fail)
        all_goals (go_wp2; go_meet)
        all_goals exact ⟨_, _, _, rfl, rfl, rfl, by first | exact own_p0 | exact own_p1 | exact own_p2, by first | exact own_p0 | exact own_p1 | exact own_p2, by first | exact own_p0 | exact own_p1 | exact own_p2, by repeat (first | exact Below.refl _ _ | refine below_dN ?_ _ | refine Below.drew ?_ | refine Below.alloc ?_ (by first | omega | (simp; done) | (simp; omega)) _ | refine Below.setCell ?_ (by first | omega | (simp; done) | (simp; omega)) _ | refine below_step (by assumption) (by first | omega | (simp; done) | (simp; omega)) ?_)⟩
      case rest =>
        clear q0 q1 q2 q3 q4 q5 q6 q7 hbx hbw0 hbel n00 n01 n02 d00 d01 d02
        obtain ⟨A, B, C, rfl, rfl, rfl, ⟨a0, a1, a2, a3, a4⟩, ⟨b0, b1, b2, b3, b4⟩, ⟨c0, c1, c2, c3, c4⟩, hbw⟩ := hcut
        have ka := fun W => add_any X0 X1 Y0 Y1 W
        rw [Hf.out.ab] at ka
        have kb := fun W => add_any Y0 Y1 X0 X1 W
        rw [Hf.out.ba] at kb
        have kc := fun W => add_any Y0 Y1 Z0 Z1 W
        rw [Hf.out.bc] at kc
        have kd := fun W => add_any x1 x2 Z0 Z1 W
        rw [Hf.out.le] at kd
        have ke := fun W => add_any X0 X1 y1 y2 W
        rw [Hf.out.ri] at ke
        have kf := fun W => mul_any X0 X1 Y0 Y1 W
        rw [Hf.out.p] at kf
        have kg := fun W => mul_any Y0 Y1 X0 X1 W
        rw [Hf.out.q] at kg
        have kh := fun W => mul_any X0 X1 Z0 Z1 W
        rw [Hf.out.r] at kh
        have ki := fun W => mul_any X0 X1 y1 y2 W
        rw [Hf.out.s] at ki
        have kj := fun W => add_any p1 p2 r1 r2 W
        rw [Hf.out.t] at kj
        have kk := fun W => sub_any x1 x2 Y0 Y1 W
        rw [Hf.out.back] at kk
        unfold RetFE at ka kb kc kd ke kf kg kh ki kj kk
        simp only [errV_0] at ka kb kc kd ke kf kg kh ki kj kk
        clear k0 m0 m1 m2 Harr HX HY HZ a3 a4 b3 b4 c3 c4 hbz g7
        have hS := hbw.size
        go_wp2_with fail; refine (ka _).mono ?_; rintro e w2 ⟨rfl, hb2⟩; obtain ⟨hc2, hf2, hz2, hlt2, hle2⟩ := cellsIf hb2 (by (try simp); exact rfl)
        have jA2 : A < w2.heap.size := by omega
        have jB2 : B < w2.heap.size := by omega
        have jC2 : C < w2.heap.size := by omega
        have hS2 : w.heap.size ≤ w2.heap.size := by omega
        have hB2 : Below w.heap.size w w2 := below_step hb2 (by first | omega | (simp; omega)) hbw
        clear hb2
        go_wp2_with fail; refine (kb _).mono ?_; rintro e w3 ⟨rfl, hb3⟩; obtain ⟨hc3, hf3, hz3, hlt3, hle3⟩ := cellsIf hb3 (by (try simp); exact rfl)
        have jA3 : A < w3.heap.size := by omega
        have jB3 : B < w3.heap.size := by omega
        have jC3 : C < w3.heap.size := by omega
        have s2_3 : w2.heap.size < w3.heap.size := by omega
        have hS3 : w.heap.size ≤ w3.heap.size := by omega
        have hB3 : Below w.heap.size w w3 := below_step hb3 (by first | omega | (simp; omega)) (hB2.alloc (by omega) _)
        clear hb3
        go_wp2_with fail; refine (kc _).mono ?_; rintro e w4 ⟨rfl, hb4⟩; obtain ⟨hc4, hf4, hz4, hlt4, hle4⟩ := cellsIf hb4 (by (try simp); exact rfl)
        have jA4 : A < w4.heap.size := by omega
        have jB4 : B < w4.heap.size := by omega
        have jC4 : C < w4.heap.size := by omega
        have s2_4 : w2.heap.size < w4.heap.size := by omega
        have s3_4 : w3.heap.size < w4.heap.size := by omega
        have hS4 : w.heap.size ≤ w4.heap.size := by omega
        have hB4 : Below w.heap.size w w4 := below_step hb4 (by first | omega | (simp; omega)) (hB3.alloc (by omega) _)
        clear hb4
        go_wp2_with fail; refine (kd _).mono ?_; rintro e w5 ⟨rfl, hb5⟩; obtain ⟨hc5, hf5, hz5, hlt5, hle5⟩ := cellsIf hb5 (by (try simp); exact rfl)
        have jA5 : A < w5.heap.size := by omega
        have jB5 : B < w5.heap.size := by omega
        have jC5 : C < w5.heap.size := by omega
        have s2_5 : w2.heap.size < w5.heap.size := by omega
        have s3_5 : w3.heap.size < w5.heap.size := by omega
        have s4_5 : w4.heap.size < w5.heap.size := by omega
        have hS5 : w.heap.size ≤ w5.heap.size := by omega
        have hB5 : Below w.heap.size w w5 := below_step hb5 (by first | omega | (simp; omega)) (hB4.alloc (by omega) _)
        clear hb5
        go_wp2_with fail; refine (ke _).mono ?_; rintro e w6 ⟨rfl, hb6⟩; obtain ⟨hc6, hf6, hz6, hlt6, hle6⟩ := cellsIf hb6 (by (try simp); exact rfl)
        have jA6 : A < w6.heap.size := by omega
        have jB6 : B < w6.heap.size := by omega
        have jC6 : C < w6.heap.size := by omega
        have s2_6 : w2.heap.size < w6.heap.size := by omega
        have s3_6 : w3.heap.size < w6.heap.size := by omega
        have s4_6 : w4.heap.size < w6.heap.size := by omega
        have s5_6 : w5.heap.size < w6.heap.size := by omega
        have hS6 : w.heap.size ≤ w6.heap.size := by omega
        have hB6 : Below w.heap.size w w6 := below_step hb6 (by first | omega | (simp; omega)) (hB5.alloc (by omega) _)
        clear hb6
        go_wp2_with fail; refine (kf _).mono ?_; rintro e w7 ⟨rfl, hb7⟩; obtain ⟨hc7, hf7, hz7, hlt7, hle7⟩ := cellsIf hb7 (by (try simp); exact rfl)
        have jA7 : A < w7.heap.size := by omega
        have jB7 : B < w7.heap.size := by omega
        have jC7 : C < w7.heap.size := by omega
        have s2_7 : w2.heap.size < w7.heap.size := by omega
        have s3_7 : w3.heap.size < w7.heap.size := by omega
        have s4_7 : w4.heap.size < w7.heap.size := by omega
        have s5_7 : w5.heap.size < w7.heap.size := by omega
        have s6_7 : w6.heap.size < w7.heap.size := by omega
        have hS7 : w.heap.size ≤ w7.heap.size := by omega
        have hB7 : Below w.heap.size w w7 := below_step hb7 (by first | omega | (simp; omega)) (hB6.alloc (by omega) _)
        clear hb7
        go_wp2_with fail; refine (kg _).mono ?_; rintro e w8 ⟨rfl, hb8⟩; obtain ⟨hc8, hf8, hz8, hlt8, hle8⟩ := cellsIf hb8 (by (try simp); exact rfl)
        have jA8 : A < w8.heap.size := by omega
        have jB8 : B < w8.heap.size := by omega
        have jC8 : C < w8.heap.size := by omega
        have s2_8 : w2.heap.size < w8.heap.size := by omega
        have s3_8 : w3.heap.size < w8.heap.size := by omega
        have s4_8 : w4.heap.size < w8.heap.size := by omega
        have s5_8 : w5.heap.size < w8.heap.size := by omega
        have s6_8 : w6.heap.size < w8.heap.size := by omega
        have s7_8 : w7.heap.size < w8.heap.size := by omega
        have hS8 : w.heap.size ≤ w8.heap.size := by omega
        have hB8 : Below w.heap.size w w8 := below_step hb8 (by first | omega | (simp; omega)) (hB7.alloc (by omega) _)
        clear hb8
        go_wp2_with fail; refine (kh _).mono ?_; rintro e w9 ⟨rfl, hb9⟩; obtain ⟨hc9, hf9, hz9, hlt9, hle9⟩ := cellsIf hb9 (by (try simp); exact rfl)
        have jA9 : A < w9.heap.size := by omega
        have jB9 : B < w9.heap.size := by omega
        have jC9 : C < w9.heap.size := by omega
        have s2_9 : w2.heap.size < w9.heap.size := by omega
        have s3_9 : w3.heap.size < w9.heap.size := by omega
        have s4_9 : w4.heap.size < w9.heap.size := by omega
        have s5_9 : w5.heap.size < w9.heap.size := by omega
        have s6_9 : w6.heap.size < w9.heap.size := by omega
        have s7_9 : w7.heap.size < w9.heap.size := by omega
        have s8_9 : w8.heap.size < w9.heap.size := by omega
        have hS9 : w.heap.size ≤ w9.heap.size := by omega
        have hB9 : Below w.heap.size w w9 := below_step hb9 (by first | omega | (simp; omega)) (hB8.alloc (by omega) _)
        clear hb9
        go_wp2_with fail; refine (ki _).mono ?_; rintro e w10 ⟨rfl, hb10⟩; obtain ⟨hc10, hf10, hz10, hlt10, hle10⟩ := cellsIf hb10 (by (try simp); exact rfl)
        have jA10 : A < w10.heap.size := by omega
        have jB10 : B < w10.heap.size := by omega
        have jC10 : C < w10.heap.size := by omega
        have s2_10 : w2.heap.size < w10.heap.size := by omega
        have s3_10 : w3.heap.size < w10.heap.size := by omega
        have s4_10 : w4.heap.size < w10.heap.size := by omega
        have s5_10 : w5.heap.size < w10.heap.size := by omega
        have s6_10 : w6.heap.size < w10.heap.size := by omega
        have s7_10 : w7.heap.size < w10.heap.size := by omega
        have s8_10 : w8.heap.size < w10.heap.size := by omega
        have s9_10 : w9.heap.size < w10.heap.size := by omega
        have hS10 : w.heap.size ≤ w10.heap.size := by omega
        have hB10 : Below w.heap.size w w10 := below_step hb10 (by first | omega | (simp; omega)) (hB9.alloc (by omega) _)
        clear hb10
        go_wp2_with fail; refine (kj _).mono ?_; rintro e w11 ⟨rfl, hb11⟩; obtain ⟨hc11, hf11, hz11, hlt11, hle11⟩ := cellsIf hb11 (by (try simp); exact rfl)
        have jA11 : A < w11.heap.size := by omega
        have jB11 : B < w11.heap.size := by omega
        have jC11 : C < w11.heap.size := by omega
        have s2_11 : w2.heap.size < w11.heap.size := by omega
        have s3_11 : w3.heap.size < w11.heap.size := by omega
        have s4_11 : w4.heap.size < w11.heap.size := by omega
        have s5_11 : w5.heap.size < w11.heap.size := by omega
        have s6_11 : w6.heap.size < w11.heap.size := by omega
        have s7_11 : w7.heap.size < w11.heap.size := by omega
        have s8_11 : w8.heap.size < w11.heap.size := by omega
        have s9_11 : w9.heap.size < w11.heap.size := by omega
        have s10_11 : w10.heap.size < w11.heap.size := by omega
        have hS11 : w.heap.size ≤ w11.heap.size := by omega
        have hB11 : Below w.heap.size w w11 := below_step hb11 (by first | omega | (simp; omega)) (hB10.alloc (by omega) _)
        clear hb11
        go_wp2_with fail; refine (kk _).mono ?_; rintro e w12 ⟨rfl, hb12⟩; obtain ⟨hc12, hf12, hz12, hlt12, hle12⟩ := cellsIf hb12 (by (try simp); exact rfl)
        have jA12 : A < w12.heap.size := by omega
        have jB12 : B < w12.heap.size := by omega
        have jC12 : C < w12.heap.size := by omega
        have s2_12 : w2.heap.size < w12.heap.size := by omega
        have s3_12 : w3.heap.size < w12.heap.size := by omega
        have s4_12 : w4.heap.size < w12.heap.size := by omega
        have s5_12 : w5.heap.size < w12.heap.size := by omega
        have s6_12 : w6.heap.size < w12.heap.size := by omega
        have s7_12 : w7.heap.size < w12.heap.size := by omega
        have s8_12 : w8.heap.size < w12.heap.size := by omega
        have s9_12 : w9.heap.size < w12.heap.size := by omega
        have s10_12 : w10.heap.size < w12.heap.size := by omega
        have s11_12 : w11.heap.size < w12.heap.size := by omega
        have hS12 : w.heap.size ≤ w12.heap.size := by omega
        have hB12 : Below w.heap.size w w12 := below_step hb12 (by first | omega | (simp; omega)) (hB11.alloc (by omega) _)
        clear hb12
        by_cases hz : Y0 = 0
        · subst hz
          have kl := fun W => div_any X0 X1 0 Y1 W
          rw [Hf.out.div0 rfl] at kl
          unfold RetFE at kl
          simp only [errV_22] at kl
          have km := fun W => is_any 22 22 W (by decide)
          go_wp2_with fail; refine (kl _).mono ?_; rintro e w13 ⟨rfl, hb13⟩; obtain ⟨hc13, hf13, hz13, hlt13, hle13⟩ := cellsIf hb13 (by (try simp); exact rfl)
          have jA13 : A < w13.heap.size := by omega
          have jB13 : B < w13.heap.size := by omega
          have jC13 : C < w13.heap.size := by omega
          have s2_13 : w2.heap.size < w13.heap.size := by omega
          have s3_13 : w3.heap.size < w13.heap.size := by omega
          have s4_13 : w4.heap.size < w13.heap.size := by omega
          have s5_13 : w5.heap.size < w13.heap.size := by omega
          have s6_13 : w6.heap.size < w13.heap.size := by omega
          have s7_13 : w7.heap.size < w13.heap.size := by omega
          have s8_13 : w8.heap.size < w13.heap.size := by omega
          have s9_13 : w9.heap.size < w13.heap.size := by omega
          have s10_13 : w10.heap.size < w13.heap.size := by omega
          have s11_13 : w11.heap.size < w13.heap.size := by omega
          have s12_13 : w12.heap.size < w13.heap.size := by omega
          have hS13 : w.heap.size ≤ w13.heap.size := by omega
          have hB13 : Below w.heap.size w w13 := below_step hb13 (by first | omega | (simp; omega)) (hB12.alloc (by omega) _)
          clear hb13
          go_wp2_with (go_at_call 18; refine (km _).mono ?_; rintro e w' ⟨rfl, rfl⟩)
          go_ret
          exact ⟨rfl, hB13.alloc (by omega) _⟩
        · have kl := fun W => div_any X0 X1 Y0 Y1 W
          have km := fun W => mul_any u1 u2 Y0 Y1 W
          rw [(Hf.out.div1 hz).1] at kl
          rw [(Hf.out.div1 hz).2] at km
          unfold RetFE at kl km
          simp only [errV_0] at kl km
          have e0 : (Y0 == 0) = false := by simpa using hz
          clear hz
          go_wp2_with fail; refine (kl _).mono ?_; rintro e w13 ⟨rfl, hb13⟩; obtain ⟨hc13, hf13, hz13, hlt13, hle13⟩ := cellsIf hb13 (by (try simp); exact rfl)
          have jA13 : A < w13.heap.size := by omega
          have jB13 : B < w13.heap.size := by omega
          have jC13 : C < w13.heap.size := by omega
          have s2_13 : w2.heap.size < w13.heap.size := by omega
          have s3_13 : w3.heap.size < w13.heap.size := by omega
          have s4_13 : w4.heap.size < w13.heap.size := by omega
          have s5_13 : w5.heap.size < w13.heap.size := by omega
          have s6_13 : w6.heap.size < w13.heap.size := by omega
          have s7_13 : w7.heap.size < w13.heap.size := by omega
          have s8_13 : w8.heap.size < w13.heap.size := by omega
          have s9_13 : w9.heap.size < w13.heap.size := by omega
          have s10_13 : w10.heap.size < w13.heap.size := by omega
          have s11_13 : w11.heap.size < w13.heap.size := by omega
          have s12_13 : w12.heap.size < w13.heap.size := by omega
          have hS13 : w.heap.size ≤ w13.heap.size := by omega
          have hB13 : Below w.heap.size w w13 := below_step hb13 (by first | omega | (simp; omega)) (hB12.alloc (by omega) _)
          clear hb13
          go_wp2_with fail; refine (km _).mono ?_; rintro e w14 ⟨rfl, hb14⟩; obtain ⟨hc14, hf14, hz14, hlt14, hle14⟩ := cellsIf hb14 (by (try simp); exact rfl)
          have jA14 : A < w14.heap.size := by omega
          have jB14 : B < w14.heap.size := by omega
          have jC14 : C < w14.heap.size := by omega
          have s2_14 : w2.heap.size < w14.heap.size := by omega
          have s3_14 : w3.heap.size < w14.heap.size := by omega
          have s4_14 : w4.heap.size < w14.heap.size := by omega
          have s5_14 : w5.heap.size < w14.heap.size := by omega
          have s6_14 : w6.heap.size < w14.heap.size := by omega
          have s7_14 : w7.heap.size < w14.heap.size := by omega
          have s8_14 : w8.heap.size < w14.heap.size := by omega
          have s9_14 : w9.heap.size < w14.heap.size := by omega
          have s10_14 : w10.heap.size < w14.heap.size := by omega
          have s11_14 : w11.heap.size < w14.heap.size := by omega
          have s12_14 : w12.heap.size < w14.heap.size := by omega
          have s13_14 : w13.heap.size < w14.heap.size := by omega
          have hS14 : w.heap.size ≤ w14.heap.size := by omega
          have hB14 : Below w.heap.size w w14 := below_step hb14 (by first | omega | (simp; omega)) (hB13.alloc (by omega) _)
          clear hb14
          go_wp2
          go_ret
          exact ⟨rfl, hB14.alloc (by omega) _⟩

end Go.Proofs.Ytmbbojpghliaaaa

/- stratagemtop: statesAwake, walked. -/
import Derived.Test.YtpobnjbpglaohaaGreatWuB
import Derived.Test.YtpobnjbpglaohaaGreatWuC
import Derived.Deep.CutBlock
import Derived.WalkKit
import Derived.RowKitTokens
namespace Go.Proofs.YtpobnjbpglaohaaGreat
set_option linter.unusedSimpArgs false
set_option linter.unusedVariables false
open Go Go.RowKit Go.Maps
set_option linter.unusedVariables false

def TaW : Tsk := ⟨[2], [0], [], [⟨ByteArray.empty, 0, [], [⟨[], 0, 1⟩]⟩]⟩
def LaW (B : Nat) : Lies := ⟨some ⟨B, 0, none⟩, some ⟨B + 1, 0, none⟩, none, some ⟨B + 3, 0, none⟩, 1, 1, 0, 1⟩
theorem smTaW : Smll TaW := small_of (by decide +kernel)
theorem bfsTaW {i : Nat} (h : BEnd TaW i) : (bfs TaW i).1.length = 2 := by
  have h2 : BEnd TaW 2 := ⟨by decide +kernel, by decide +kernel⟩
  rw [bEnd_uni h h2]
  decide +kernel
theorem appTaW : (appL TaW [0]).length = 1 := by decide +kernel
theorem stsTaW : (sts TaW.vars).length ≤ 5 := by decide +kernel
theorem one_int {w : World} {C b : Nat} {x : Int} (hb : b < C) (h0 : w.cell? ⟨b, 0, none⟩ = some (.int .i64 x)) : IntsAt w C (some ⟨b, 0, none⟩) [x] :=
  ⟨by simp, fun _ => ⟨b, 0, rfl, hb, fun k hk => by
    have : k = 0 := by simp at hk; omega
    subst this
    exact h0⟩⟩
theorem taskAtW {w : World} {B : Nat} (hs : B + 4 ≤ w.heap.size) (a0 : w.cell? ⟨B, 0, none⟩ = some (.int .i64 2)) (b0 : w.cell? ⟨B + 1, 0, none⟩ = some (.int .i64 0))
    (f0 : w.cell? ⟨B + 2, 0, none⟩ = some (.slice none 0 0)) (f1 : w.cell? ⟨B + 2, 1, none⟩ = some (.int .i64 0)) (f2 : w.cell? ⟨B + 2, 2, none⟩ = some (.int .i64 1))
    (g0 : w.cell? ⟨B + 3, 0, none⟩ = some (.string ByteArray.empty)) (g1 : w.cell? ⟨B + 3, 1, none⟩ = some (.int .i64 0)) (g2 : w.cell? ⟨B + 3, 2, none⟩ = some (.slice none 0 0)) (g3 : w.cell? ⟨B + 3, 3, none⟩ = some (.slice (some ⟨B + 2, 0, none⟩) 1 1)) :
    TaskAt w w.heap.size TaW (LaW B) where
  vars := one_int (by omega) a0
  init := one_int (by omega) b0
  goal := ⟨by decide, fun h => absurd h (by decide)⟩
  ops := ⟨by simp [TaW], fun _ => ⟨B + 3, 0, rfl, by omega, fun k hk => by
    have : k = 0 := by simp [TaW] at hk; omega
    subst this
    refine ⟨_, _, _, _, g0, by decide, g1, g2, ⟨by decide, fun h => absurd h (by decide)⟩, g3, by decide, fun _ => ⟨B + 2, 0, rfl, by omega, fun j hj => ?_⟩⟩
    have : j = 0 := by simp [TaW, opr] at hj; omega
    subst this
    exact ⟨_, _, f0, ⟨by decide, fun h => absurd h (by decide)⟩, f1, f2⟩⟩⟩
set_option maxRecDepth 20000 in
set_option maxHeartbeats 4000000 in
theorem statesAwake_any (w : World) : Calls Tryz.prog 5 #[] w fun e w' => e = .returned (.bool true) ∧ Below w.heap.size w w' := by
  go_enter Tryz.func5, Tryz.ntmps5
  go_upto_region 2 with fail
  obtain ⟨w1, hw1⟩ : ∃ W, W = (((((w.alloc (Obj.cells #[Value.int IntKind.i64 2] 3)).alloc (Obj.cells #[Value.int IntKind.i64 0] 3)).alloc (Obj.cells #[Value.slice none 0 0, Value.int IntKind.i64 0, Value.int IntKind.i64 1] 70)).alloc (Obj.cells #[Value.string { data := #[] }, Value.int IntKind.i64 0, Value.slice none 0 0, Value.slice (some { block := w.heap.size + 1 + 1, off := 0 }) 1 1] 62)).alloc (Obj.cells #[Value.slice (some { block := w.heap.size, off := 0 }) 1 1, Value.slice (some { block := w.heap.size + 1, off := 0 }) 1 1, Value.slice none 0 0, Value.slice (some { block := w.heap.size + 1 + 1 + 1, off := 0 }) 1 1] 26)) := ⟨_, rfl⟩
  rw [← hw1]
  have hsz : w.heap.size + 5 ≤ w1.heap.size := by rw [hw1]; simp
  have HT1 := Lib.hid (show TaskAt w1 w1.heap.size TaW (LaW w.heap.size) by
    refine taskAtW (by omega) ?_ ?_ ?_ ?_ ?_ ?_ ?_ ?_ ?_
    all_goals rw [hw1]
    · exact ((show Below (w.alloc (Obj.cells #[Value.int IntKind.i64 2] 3)).heap.size (w.alloc (Obj.cells #[Value.int IntKind.i64 2] 3)) _ from (by repeat (first | exact Below.refl _ _ | refine below_dN ?_ _ | refine Below.drew ?_ | refine Below.alloc ?_ (by first | omega | (simp; done) | (simp; omega)) _ | refine Below.setCell ?_ (by first | omega | (simp; done) | (simp; omega)) _ | refine below_step (by assumption) (by first | omega | (simp; done) | (simp; omega)) ?_))).cell (p := ⟨w.heap.size, 0, none⟩) (by simp)).trans (by simp [World.cell?_alloc_at])
    all_goals (first | (simp [World.cell?_alloc_at, World.cell?_alloc_past]; done) | (simp [World.cell?_alloc_at, World.cell?_alloc_past]; rfl)))
  have HX1 := Lib.hid (show BxI w1 (w.heap.size + 1 + 1 + 1 + 1) 26 #[Value.slice (some { block := w.heap.size, off := 0 }) 1 1, Value.slice (some { block := w.heap.size + 1, off := 0 }) 1 1, Value.slice none 0 0, Value.slice (some { block := w.heap.size + 1 + 1 + 1, off := 0 }) 1 1] by
    rw [hw1]
    have e : ((((w.alloc (Obj.cells #[Value.int IntKind.i64 2] 3)).alloc (Obj.cells #[Value.int IntKind.i64 0] 3)).alloc (Obj.cells #[Value.slice none 0 0, Value.int IntKind.i64 0, Value.int IntKind.i64 1] 70)).alloc (Obj.cells #[Value.string { data := #[] }, Value.int IntKind.i64 0, Value.slice none 0 0, Value.slice (some { block := w.heap.size + 1 + 1, off := 0 }) 1 1] 62)).heap.size = w.heap.size + 1 + 1 + 1 + 1 := by simp
    rw [← e]
    exact BxI.new _ _ _)
  have HB1 := Lib.hid (show Below w.heap.size w w1 by rw [hw1]; repeat (first | exact Below.refl _ _ | refine below_dN ?_ _ | refine Below.drew ?_ | refine Below.alloc ?_ (by first | omega | (simp; done) | (simp; omega)) _ | refine Below.setCell ?_ (by first | omega | (simp; done) | (simp; omega)) _ | refine below_step (by assumption) (by first | omega | (simp; done) | (simp; omega)) ?_))
  have hx1 := HX1.out.lt
  have y0 := HX1.out.cell 0 _ rfl
  have y1 := HX1.out.cell 1 _ rfl
  have y2 := HX1.out.cell 2 _ rfl
  have y3 := HX1.out.cell 3 _ rfl
  clear hw1
  go_wp2_with fail
  refine (explore_any TaW (LaW w.heap.size) w1 5 HT1.out smTaW (.inr rfl) stsTaW).mono ?_
  rintro e w2 ⟨⟨X, i, rfl, hend, hsp⟩, hb2⟩
  have HE := Lib.hid hend
  have HSP := Lib.hid hsp
  have HB2 := Lib.hid hb2
  have HX2 := Lib.hid (HX1.out.up hb2)
  have hz2 := hb2.size
  have HT2 := Lib.hid (HT1.out.up hb2)
  clear y0 y1 y2 y3 hend hsp hb2
  have hx2 := HX2.out.lt
  have y0 := HX2.out.cell 0 _ rfl
  have y1 := HX2.out.cell 1 _ rfl
  have y2 := HX2.out.cell 2 _ rfl
  have y3 := HX2.out.cell 3 _ rfl
  go_wp2_with fail
  refine (gnew_any TaW (LaW w.heap.size) w2 HT2.out smTaW.right smTaW.chk).mono ?_
  rintro e w3 ⟨⟨G, rfl, hg⟩, hb3⟩
  have HG := Lib.hid hg
  have HB3 := Lib.hid hb3
  have hz3 := hb3.size
  have KL := xlen_any (HSP.out.up hb3)
  rw [bfsTaW HE.out] at KL
  have HKL := Lib.hid KL
  clear y0 y1 y2 y3 hg hb3 KL
  go_wp2_with fail
  refine HKL.out.mono ?_
  rintro e w4 ⟨rfl, hb4⟩
  have HB4 := Lib.hid hb4
  have hz4 := hb4.size
  have HG4 := Lib.hid (HG.out.up hb4)
  have HW4 := Lib.hid (show Below w.heap.size w w4 from HB1.out.trans ((HB2.out.trans ((HB3.out.trans (HB4.out.mono hz3)).mono hz2)).mono (by omega)))
  have KC := Lib.hid (fun W (k : Below w4.heap.size w4 W) b (hb : b < W.heap.size) (h0 : W.cell? ⟨b, 0, none⟩ = some (.int .i64 0)) => appTaW ▸ gcount_any TaW G [0] (some ⟨b, 0, none⟩) 1 W (HG4.out.up k) smTaW.right (one_int hb h0) ⟨rfl, fun k hk => by
    have : k = 0 := by simp at hk; omega
    subst this
    decide⟩)
  clear hb4
  go_wp2_with fail
  refine (KC.out _ (by repeat (first | exact Below.refl _ _ | refine below_dN ?_ _ | refine Below.drew ?_ | refine Below.alloc ?_ (by first | omega | (simp; done) | (simp; omega)) _ | refine Below.setCell ?_ (by first | omega | (simp; done) | (simp; omega)) _ | refine below_step (by assumption) (by first | omega | (simp; done) | (simp; omega)) ?_)) w4.heap.size (by simp) (by simp [World.cell?_alloc_at])).mono ?_
  rintro e w5 ⟨rfl, hb5⟩
  have HB5 := Lib.hid (show Below w4.heap.size w4 w5 from below_step hb5 (show w4.heap.size ≤ _ by simp) (show Below w4.heap.size w4 _ by repeat (first | exact Below.refl _ _ | refine below_dN ?_ _ | refine Below.drew ?_ | refine Below.alloc ?_ (by first | omega | (simp; done) | (simp; omega)) _ | refine Below.setCell ?_ (by first | omega | (simp; done) | (simp; omega)) _ | refine below_step (by assumption) (by first | omega | (simp; done) | (simp; omega)) ?_)))
  clear hb5
  go_wp2_with fail
  go_ret
  exact ⟨rfl, HW4.out.trans (HB5.out.mono (by omega))⟩
end Go.Proofs.YtpobnjbpglaohaaGreat

/- The law TaskSplits. -/
import Derived.Test.YtbbgbogenkcooaaTaskT
import Derived.Test.YtbbgbogenkcooaaTaskX
import Derived.Test.YtbbgbogenkcooaaApp
import Derived.Test.YtbbgbogenkcooaaTaskV
import Derived.Test.YtbbgbogenkcooaaTaskVB
namespace Go.Proofs.Ytbbgbogenkcooaa
set_option linter.unusedSimpArgs false
set_option linter.unusedVariables false
open Go.RowKit
set_option linter.unusedVariables false


set_option maxRecDepth 4000 in
set_option maxHeartbeats 4000000 in
theorem splits_long (t : Tsk) (p : Lies) (s : List Int) (A : Option Addr) (c : Nat) (pa pb : List Int) (P0 P1 : Option Addr) (c0 c1 : Nat) (w : World) (ht : TaskAt w w.heap.size t p) (hs : IntsAt w w.heap.size A s) (hp0 : IntsAt w w.heap.size P0 pa) (hp1 : IntsAt w w.heap.size P1 pb) (hn0 : P0 = none → c0 = 0) (hn1 : P1 = none → c1 = 0) (hle : ¬ pa.length + pb.length ≤ 200) :
    Calls Try.prog 13 #[TaskV t p, .slice A s.length c, .agg #[.slice P0 pa.length c0, .slice P1 pb.length c1]] w fun e w' => e = .returned (.bool true) ∧ Below w.heap.size w w' := by
  obtain ⟨av, ai, ag, ao, cv, ci, cg, co⟩ := p
  unfold TaskV at *
  dsimp only at *
  have l0 := hp0.len
  have l1 := hp1.len
  have k0 := fun w1 => awake05_any w1
  have k1 := fun w1 (hb : Below w.heap.size w w1) => lawlarge_any t ⟨av, ai, ag, ao, cv, ci, cg, co⟩ w1 (ht.up hb)
  unfold TaskV at k1
  dsimp only at k1
  have hgt : 200 < pa.length + pb.length := by omega
  go_enter Try.func13, Try.ntmps13
  go_wp2_with fail
  refine (k1 _ (by repeat (first | exact Below.refl _ _ | refine below_dN ?_ _ | refine Below.drew ?_ | refine Below.alloc ?_ (by first | omega | (simp; done) | (simp; omega)) _ | refine Below.setCell ?_ (by first | omega | (simp; done) | (simp; omega)) _ | refine below_step (by assumption) (by first | omega | (simp; done) | (simp; omega)) ?_))).mono ?_
  rintro e w1 ⟨⟨B, rfl⟩, hb1⟩
  obtain ⟨hc1, hf1, hz1, hlt1, hle1⟩ := cellsIf hb1 (by (try simp); exact rfl)
  have e01 : w1.cell? ⟨w.heap.size + 1, 0, none⟩ = some (.slice P0 pa.length c0) := (hb1.cell (p := ⟨w.heap.size + 1, 0, none⟩) (by first | (simp; done) | (simp; omega))).trans (by simp)
  have e02 : w1.cell? ⟨w.heap.size + 1, 1, none⟩ = some (.slice P1 pb.length c1) := (hb1.cell (p := ⟨w.heap.size + 1, 1, none⟩) (by first | (simp; done) | (simp; omega))).trans (by simp)
  have hs1 : w.heap.size + 2 ≤ w1.heap.size := by first | (simpa using hz1) | omega
  cases B <;> (go_wp2_with fail; refine (k0 _).mono ?_; rintro e w2 ⟨rfl, hb2⟩; obtain ⟨hc2, hf2, hz2, hlt2, hle2⟩ := cellsIf hb2 (by (try simp); exact rfl); (try have : w.heap.size < w2.heap.size := (by omega)); (try have : w.heap.size < w2.heap.size + 1 := (by omega)); (try have : w.heap.size < w2.heap.size + 1 + 1 := (by omega)); (try have : w.heap.size + 1 < w2.heap.size := (by omega)); (try have : w.heap.size + 1 < w2.heap.size + 1 := (by omega)); (try have : w.heap.size + 1 < w2.heap.size + 1 + 1 := (by omega)); (try have : w.heap.size + 1 + 1 < w2.heap.size := (by omega)); (try have : w.heap.size + 1 + 1 < w2.heap.size + 1 := (by omega)); (try have : w.heap.size + 1 + 1 < w2.heap.size + 1 + 1 := (by omega)); (try have : w1.heap.size < w2.heap.size := (by omega)); (try have : w1.heap.size < w2.heap.size + 1 := (by omega)); (try have : w1.heap.size < w2.heap.size + 1 + 1 := (by omega)); (try have : w1.heap.size + 1 < w2.heap.size := (by omega)); (try have : w1.heap.size + 1 < w2.heap.size + 1 := (by omega)); (try have : w1.heap.size + 1 < w2.heap.size + 1 + 1 := (by omega)); (try have : w1.heap.size + 1 + 1 < w2.heap.size := (by omega)); (try have : w1.heap.size + 1 + 1 < w2.heap.size + 1 := (by omega)); (try have : w1.heap.size + 1 + 1 < w2.heap.size + 1 + 1 := (by omega)); go_wp2; go_ret; exact ⟨rfl, by repeat (first | exact Below.refl _ _ | refine below_dN ?_ _ | refine Below.drew ?_ | refine Below.alloc ?_ (by first | omega | (simp; done) | (simp; omega)) _ | refine Below.setCell ?_ (by first | omega | (simp; done) | (simp; omega)) _ | refine below_step (by assumption) (by first | omega | (simp; done) | (simp; omega)) ?_)⟩)

theorem taskSplits_any (t : Tsk) (p : Lies) (s : List Int) (A : Option Addr) (c : Nat) (pa pb : List Int) (P0 P1 : Option Addr) (c0 c1 : Nat) (w : World) (ht : TaskAt w w.heap.size t p) (hs : IntsAt w w.heap.size A s) (hp0 : IntsAt w w.heap.size P0 pa) (hp1 : IntsAt w w.heap.size P1 pb) (hn0 : P0 = none → c0 = 0) (hn1 : P1 = none → c1 = 0) :
    Calls Try.prog 13 #[TaskV t p, .slice A s.length c, .agg #[.slice P0 pa.length c0, .slice P1 pb.length c1]] w fun e w' => e = .returned (.bool true) ∧ Below w.heap.size w w' := by
  by_cases hle : pa.length + pb.length ≤ 200
  · by_cases hC : (runR t s pa).2.2 = 0
    · by_cases hD : (runR t (runR t s pa).1 pb).2.2 = 0
      · exact splits_zero t p s A c pa pb P0 P1 c0 c1 w ht hs hp0 hp1 hn0 hn1 hle hC hD
      · exact splits_some t p s A c pa pb P0 P1 c0 c1 w ht hs hp0 hp1 hn0 hn1 hle hC hD
    · exact splits_bad t p s A c pa pb P0 P1 c0 c1 w ht hs hp0 hp1 hn0 hn1 hle hC
  · exact splits_long t p s A c pa pb P0 P1 c0 c1 w ht hs hp0 hp1 hn0 hn1 hle

end Go.Proofs.Ytbbgbogenkcooaa

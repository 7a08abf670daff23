/- law36: f, example, awake; the law LandmarkFacts. -/
import Derived.Test.YtenmeiplglbafaaLmS
import Derived.Test.YtenmeiplglbafaaSame
import Derived.Test.YtenmeiplglbafaaGood
import Derived.Test.YtenmeiplglbafaaTaskJ
namespace Go.Proofs.Ytenmeiplglbafaa
set_option linter.unusedSimpArgs false
set_option linter.unusedVariables false
open Go Go.RowKit
set_option linter.unusedVariables false

def T36 : Tsk := ⟨[2, 3], [0, 0], [(1, 1)], [⟨⟨#[100, 114, 105, 118, 101, 32, 116, 104, 101, 114, 101]⟩, 1, [(0, 0)], [⟨[], 0, 1⟩]⟩, ⟨⟨#[100, 114, 105, 118, 101, 32, 98, 97, 99, 107]⟩, 1, [(0, 1)], [⟨[], 0, 0⟩]⟩, ⟨⟨#[108, 111, 97, 100]⟩, 1, [(0, 0), (1, 0)], [⟨[], 1, 2⟩]⟩, ⟨⟨#[117, 110, 108, 111, 97, 100]⟩, 1, [(0, 1), (1, 2)], [⟨[], 1, 1⟩]⟩]⟩
theorem chk36 : chkC T36 = 0 := by decide +kernel
theorem st36 : stB T36.vars [0, 0] = true := by decide +kernel
theorem no36 {a : Int × Int} {M : Nat → Nat → Bool} (h1 : M 0 0 = true) (h2 : M 1 0 = true) (hc : ClosM T36 a M) (hg : M 1 1 = false) : hsM T36.goal (rcB T36 [0, 0] a) = false := by
  rw [Bool.eq_false_iff]
  intro h
  have hh := hsM_iff.1 h 0 (by decide)
  have hr : Rch T36 [0, 0] a 1 1 := rcB_iff.1 hh
  have := rc_all (M := M) (fun v hv => by
    have : v = 0 ∨ v = 1 := by have : T36.vars.length = 2 := rfl
                               omega
    rcases this with rfl | rfl
    · exact h1
    · exact h2) hc hr
  rw [hg] at this; cases this
theorem yes36 : hsM T36.goal (rcB T36 [0, 0] noF) = true := by
  have a0 : Rch T36 [0, 0] noF 0 0 := Rch.start (v := 0) (by decide)
  have a1 : Rch T36 [0, 0] noF 1 0 := Rch.start (v := 1) (by decide)
  have a2 : Rch T36 [0, 0] noF 0 1 := Rch.step (k := 0) (j := 0) (by decide) (by decide) (by decide) (fun i hi => by
    have : i = 0 := by have : (opr T36.ops 0).pre.length = 1 := rfl
                       omega
    subst this; exact a0) (fun i hi => absurd hi (by decide +revert))
  have a3 : Rch T36 [0, 0] noF 1 2 := Rch.step (k := 2) (j := 0) (by decide) (by decide) (by decide) (fun i hi => by
    have : i = 0 ∨ i = 1 := by have : (opr T36.ops 2).pre.length = 2 := rfl
                               omega
    rcases this with rfl | rfl
    · exact a0
    · exact a1) (fun i hi => absurd hi (by decide +revert))
  have a4 : Rch T36 [0, 0] noF 1 1 := Rch.step (k := 3) (j := 0) (by decide) (by decide) (by decide) (fun i hi => by
    have : i = 0 ∨ i = 1 := by have : (opr T36.ops 3).pre.length = 2 := rfl
                               omega
    rcases this with rfl | rfl
    · exact a2
    · exact a3) (fun i hi => absurd hi (by decide +revert))
  refine hsM_iff.2 fun i hi => ?_
  have : i = 0 := by have : T36.goal.length = 1 := rfl
                     omega
  subst this
  exact rcB_iff.2 a4
theorem lm36 : lmL T36 [0, 0] = [(0, 1), (1, 1), (1, 2)] ∧ lmC T36 [0, 0] = 0 := by
  have hc : lmC T36 [0, 0] = 0 := by unfold lmC; rw [st36, yes36]; rfl
  refine ⟨?_, hc⟩
  have h1 : hsM T36.goal (rcB T36 [0, 0] (0, 1)) = false := no36 (M := fun v x => (v == 0 && x == 0) || (v == 1 && (x == 0 || x == 2))) rfl rfl (by unfold ClosM; decide +kernel) rfl
  have h2 : hsM T36.goal (rcB T36 [0, 0] (1, 1)) = false := no36 (M := fun v x => v == 0 || (v == 1 && (x == 0 || x == 2))) rfl rfl (by unfold ClosM; decide +kernel) rfl
  have h3 : hsM T36.goal (rcB T36 [0, 0] (1, 2)) = false := no36 (M := fun v x => v == 0 || (v == 1 && x == 0)) rfl rfl (by unfold ClosM; decide +kernel) rfl
  unfold lmL
  rw [if_pos hc]
  unfold lmks
  rw [show alF T36.vars = [(0, 0), (0, 1), (1, 0), (1, 1), (1, 2)] by decide +kernel]
  have b0 : lmB T36 [0, 0] (0, 0) = false := by unfold lmB; simp [nth]
  have b2 : lmB T36 [0, 0] (1, 0) = false := by unfold lmB; simp [nth]
  have b1 : lmB T36 [0, 0] (0, 1) = true := by unfold lmB; rw [h1]; simp [nth]
  have b3 : lmB T36 [0, 0] (1, 1) = true := by unfold lmB; rw [h2]; simp [nth]
  have b4 : lmB T36 [0, 0] (1, 2) = true := by unfold lmB; rw [h3]; simp [nth]
  simp [List.filter, b0, b1, b2, b3, b4]

set_option maxHeartbeats 1000000 in
theorem fmk_any (x y : Int) (w : World) : Calls Try.prog 65 #[.int .i64 x, .int .i64 y] w fun e w' => e = .returned (.slice (some ⟨w.heap.size, 0, none⟩) 1 1) ∧ w' = w.alloc (.cells #[.int .i64 x, .int .i64 y] 48) := by
  go_enter Try.func65, Try.ntmps65
  go_wp2
  go_ret
  exact ⟨rfl, rfl⟩

end Go.Proofs.Ytenmeiplglbafaa

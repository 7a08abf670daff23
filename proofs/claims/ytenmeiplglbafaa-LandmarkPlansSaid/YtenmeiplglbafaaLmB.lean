/- slices.Clone of facts; landmark.New. -/
import Derived.Test.YtenmeiplglbafaaLmQ
import Derived.Test.YtenmeiplglbafaaAppN
import Derived.Test.YtenmeiplglbafaaTaskH
import Derived.Lib.BufferMore
namespace Go.Proofs.Ytenmeiplglbafaa
set_option linter.unusedSimpArgs false
set_option linter.unusedVariables false
open Go Go.RowKit
set_option linter.unusedVariables false

theorem infoF8 : (Try.prog.info? 48).map (fun i => (i.zero, i.size, i.bytes)) = some (some (.agg #[.int .i64 0, .int .i64 0]), 2, 16) := by kernel_rfl
theorem undF8 : Try.prog.underlying 23 = some (.slice 48) := by kernel_rfl
theorem infoI8 : (Try.prog.info? 3).map (fun i => (i.zero, i.size, i.bytes)) = some (some (.int .i64 0), 1, 8) := by kernel_rfl
theorem undI8 : Try.prog.underlying 22 = some (.slice 3) := by kernel_rfl
theorem infoU8 : (Try.prog.info? 86).map (fun i => (i.zero, i.size, i.bytes)) = some (some (.agg #[.int .i64 0, .slice none 0 0, .int .i64 0, .int .i64 0]), 4, 48) := by kernel_rfl
theorem undU8 : Try.prog.underlying 80 = some (.slice 86) := by kernel_rfl

set_option maxRecDepth 4000 in
set_option maxHeartbeats 1000000 in
theorem cloneF_any (l : List (Int × Int)) (A : Option Addr) (c : Nat) (w : World) (h : FactsAt w w.heap.size A l) (hs : l.length ≤ 1000000) :
    Calls Try.prog 40 #[.slice A l.length c] w fun e w' => (∃ v, e = .returned v ∧ w'.ownsRow w.heap.size 48 2 v l.length (fcl l)) ∧ Below w.heap.size w w' := by
  obtain ⟨inf, hi, hz0, hz1, hz2⟩ := info_parts infoF8
  have hA : A = none → l = [] := fun e => by
    rcases Nat.eq_zero_or_pos l.length with h0 | h0
    · exact List.length_eq_zero_iff.1 h0
    · obtain ⟨b, off, e2, _⟩ := h.2 h0; rw [e] at e2; cases e2
  cases A with
  | none =>
    obtain rfl := hA rfl
    have heq : ∀ w', (binOp .eql 23 (.slice none ([] : List (Int × Int)).length c) (.slice none 0 0)).run Try.prog w' = .ok (.bool true) w' := fun w' => Lib.run_eql_slice_nil_nil w' _ c undF8
    simp only [List.length_nil] at heq ⊢
    go_enter Try.func40, Try.ntmps40
    go_wp2
    go_ret
    exact ⟨⟨_, rfl, World.ownsRow_nil _ _ _ _⟩, by repeat (first | exact Below.refl _ _ | refine below_dN ?_ _ | refine Below.drew ?_ | refine Below.alloc ?_ (by first | omega | (simp; done) | (simp; omega)) _ | refine Below.setCell ?_ (by first | omega | (simp; done) | (simp; omega)) _ | refine below_step (by assumption) (by first | omega | (simp; done) | (simp; omega)) ?_)⟩
  | some ad =>
    have Hn := Lib.hid (show ∀ o : Obj, SrcNt (w.alloc o) (some ad) l.length c 2 (fcl l) from fun o => facts_srn (h.up ((Below.refl _ _).alloc (Nat.le_refl _) o)))
    clear hA
    have heq : ∀ w', (binOp .eql 23 (.slice (some ad) l.length c) (.slice none 0 0)).run Try.prog w' = .ok (.bool false) w' := fun w' => Lib.run_eql_slice_some_nil w' ad _ c undF8
    go_enter Try.func40, Try.ntmps40
    go_wp2_with (at_builtin; refine wpList_append_srn rfl _ _ 23 rfl w.heap.size 48 inf (.agg #[.int .i64 0, .int .i64 0]) 2 16 undF8 hi hz0 hz1 hz2 rfl (by decide) _ 0 [] rfl (World.ownsRow_made w #[] 0 (Nat.le_refl _) (by simp [maxLen]) rfl) (some ad) l.length c (fcl l) rfl (Hn.out _) (by unfold maxLen; omega) (by omega) (by simp) ?_; intro v' w1 hown' hgrow _; simp only [Nat.zero_add, List.nil_append] at hown'; have hb1 : Below w.heap.size w w1 := grown_below2 (s := 2) (Below.alloc (Below.refl _ _) (Nat.le_refl _) _) (Nat.le_refl _) (World.ownsRow_made w #[] 0 (Nat.le_refl _) (by simp [maxLen]) rfl) hgrow; have Hown := Lib.hid hown'; clear hgrow hown')
    go_ret
    exact ⟨⟨_, rfl, Hown.out⟩, hb1⟩

end Go.Proofs.Ytenmeiplglbafaa

/- explore: Len, State, Edges of a space, walked. -/
import Derived.Test.YtpobnjbpglaohaaGreatWuA
import Derived.WalkKit
import Derived.RowKitTokens
namespace Go.Proofs.YtpobnjbpglaohaaGreat
set_option linter.unusedSimpArgs false
set_option linter.unusedVariables false
open Go Go.RowKit Go.Maps
set_option linter.unusedVariables false

set_option maxHeartbeats 2000000 in
theorem xlen_any {w : World} {X : Nat} {t : Tsk} {Y : BS} (h : SpAt w X t Y) :
    Calls Tryz.prog 21 #[.pointer (some ⟨X, 0, none⟩)] w fun e w' => e = .returned (.int .i64 Y.1.length) ∧ Below w.heap.size w w' := by
  obtain ⟨base, R, q, mb, RE, es, L, wb, pt, EA, EC, GV, c7, c8, c9, bE, h1, h2, h3⟩ := h
  have KL := Lib.hid (fun W (k : Below w.heap.size w W) => rlen_any (h1.keep (Kb.of_below (bad := fun _ => False) k) (fun _ hc => hc.elim) (fun _ hc => hc.elim) (fun _ hc => hc.elim)))
  have y4 := h2.cell 4 _ rfl
  have hlt := h2.lt
  clear h1 h2 h3
  go_enter Tryz.func21, Tryz.ntmps21
  go_wp2_with fail
  refine (KL.out _ (by repeat (first | exact Below.refl _ _ | refine below_dN ?_ _ | refine Below.drew ?_ | refine Below.alloc ?_ (by first | omega | (simp; done) | (simp; omega)) _ | refine Below.setCell ?_ (by first | omega | (simp; done) | (simp; omega)) _ | refine below_step (by assumption) (by first | omega | (simp; done) | (simp; omega)) ?_))).mono ?_
  rintro e w1 ⟨rfl, hb1⟩
  have HB1 := Lib.hid (show Below w.heap.size w w1 from below_step hb1 (show w.heap.size ≤ _ by simp) (show Below w.heap.size w _ by repeat (first | exact Below.refl _ _ | refine below_dN ?_ _ | refine Below.drew ?_ | refine Below.alloc ?_ (by first | omega | (simp; done) | (simp; omega)) _ | refine Below.setCell ?_ (by first | omega | (simp; done) | (simp; omega)) _ | refine below_step (by assumption) (by first | omega | (simp; done) | (simp; omega)) ?_)))
  clear hb1
  go_wp2
  refine bodyPost_ret (v := .int .i64 Y.1.length) (by simp [results, Tryz.results21, go_sem, ↓IntWalk.iteOmega, *]) rfl ⟨rfl, HB1.out⟩
set_option maxHeartbeats 2000000 in
theorem xstate_any {w : World} {X : Nat} {t : Tsk} {Y : BS} (h : SpAt w X t Y) (i : Nat) (hi : i < Y.1.length) :
    Calls Tryz.prog 13 #[.pointer (some ⟨X, 0, none⟩), .int .i64 i] w fun e w' => (∃ g, e = .returned (.tuple #[.slice (some ⟨g, 0, none⟩) t.vars.length t.vars.length, .nilIface]) ∧ w.heap.size ≤ g ∧ BxI w' g 3 (ic (stI Y.1 i)).toArray) ∧ Below w.heap.size w w' := by
  obtain ⟨base, R, q, mb, RE, es, L, wb, pt, EA, EC, GV, c7, c8, c9, bE, h1, h2, h3⟩ := h
  have KL := Lib.hid (fun W (k : Below w.heap.size w W) => pkF_len t ▸ rstate_any (h1.keep (Kb.of_below (bad := fun _ => False) k) (fun _ hc => hc.elim) (fun _ hc => hc.elim) (fun _ hc => hc.elim)) i hi)
  have y4 := h2.cell 4 _ rfl
  have hlt := h2.lt
  clear h1 h2 h3
  go_enter Tryz.func13, Tryz.ntmps13
  go_wp2_with fail
  refine (KL.out _ (by repeat (first | exact Below.refl _ _ | refine below_dN ?_ _ | refine Below.drew ?_ | refine Below.alloc ?_ (by first | omega | (simp; done) | (simp; omega)) _ | refine Below.setCell ?_ (by first | omega | (simp; done) | (simp; omega)) _ | refine below_step (by assumption) (by first | omega | (simp; done) | (simp; omega)) ?_))).mono ?_
  rintro e w1 ⟨⟨g, rfl, hg, hx⟩, hb1⟩
  have HB1 := Lib.hid (show Below w.heap.size w w1 from below_step hb1 (show w.heap.size ≤ _ by simp) (show Below w.heap.size w _ by repeat (first | exact Below.refl _ _ | refine below_dN ?_ _ | refine Below.drew ?_ | refine Below.alloc ?_ (by first | omega | (simp; done) | (simp; omega)) _ | refine Below.setCell ?_ (by first | omega | (simp; done) | (simp; omega)) _ | refine below_step (by assumption) (by first | omega | (simp; done) | (simp; omega)) ?_)))
  have HX := Lib.hid hx
  have hg' : w.heap.size ≤ g := by first | exact hg | (simp at hg; omega)
  clear hb1 hx
  go_wp2
  refine bodyPost_ret (v := .tuple #[.slice (some ⟨g, 0, none⟩) t.vars.length t.vars.length, .nilIface]) (by simp [results, Tryz.results13, go_sem, ↓IntWalk.iteOmega, *]) rfl ⟨⟨g, rfl, hg', HX.out⟩, HB1.out⟩
theorem edC_len : ∀ (l : List (Nat × Nat × Nat)), (edC l).length = l.length * 3
  | [] => rfl
  | f :: l => by
    have e : edC (f :: l) = .int .i64 (f.1 : Int) :: .int .i64 (f.2.1 : Int) :: .int .i64 (f.2.2 : Int) :: edC l := rfl
    rw [e]
    simp only [List.length_cons, edC_len l]
    omega
theorem edC_one : ∀ (l : List (Nat × Nat × Nat)), ∀ u ∈ edC l, u.oneCell' = true
  | [], u, h => by cases h
  | f :: l, u, h => by
    have e : edC (f :: l) = .int .i64 (f.1 : Int) :: .int .i64 (f.2.1 : Int) :: .int .i64 (f.2.2 : Int) :: edC l := rfl
    rw [e] at h
    simp only [List.mem_cons] at h
    rcases h with rfl | rfl | rfl | h
    · rfl
    · rfl
    · rfl
    · exact edC_one l u h
set_option maxHeartbeats 2000000 in
theorem xedges_any {w : World} {X : Nat} {t : Tsk} {Y : BS} (h : SpAt w X t Y) (hl : Y.2.length ≤ 1000000) :
    Calls Tryz.prog 20 #[.pointer (some ⟨X, 0, none⟩)] w fun e w' => (∃ A c, e = .returned (.slice A Y.2.length c) ∧ w'.ownsRow w.heap.size 64 3 (.slice A Y.2.length c) Y.2.length (edC Y.2)) ∧ Below w.heap.size w w' := by
  obtain ⟨base, R, q, mb, RE, es, L, wb, pt, EA, EC, GV, c7, c8, c9, bE, h1, h2, h3⟩ := h
  have HR3 := Lib.hid (show RowX w w.heap.size EA Y.2.length (edC Y.2) from fun h0 => by
    obtain ⟨g, rfl, hg1, hg2, _⟩ := own_frozen' h3 h0
    exact ⟨g, 0, rfl, hg2, fun j u hj => by rw [Nat.zero_add]; exact own_cell h3 hj⟩)
  have KL := Lib.hid (fun W (k : Below w.heap.size w W) => cloneE_any (edC Y.2) Y.2.length EA EC W (HR3.out.keep k k.size) (edC_len _) (edC_one _) hl)
  have y5 := h2.cell 5 _ rfl
  have hlt := h2.lt
  clear h1 h2 h3
  go_enter Tryz.func20, Tryz.ntmps20
  go_wp2_with fail
  refine (KL.out _ (by repeat (first | exact Below.refl _ _ | refine below_dN ?_ _ | refine Below.drew ?_ | refine Below.alloc ?_ (by first | omega | (simp; done) | (simp; omega)) _ | refine Below.setCell ?_ (by first | omega | (simp; done) | (simp; omega)) _ | refine below_step (by assumption) (by first | omega | (simp; done) | (simp; omega)) ?_))).mono ?_
  rintro e w1 ⟨⟨v, rfl, hv⟩, hb1⟩
  have HB1 := Lib.hid (show Below w.heap.size w w1 from below_step hb1 (show w.heap.size ≤ _ by simp) (show Below w.heap.size w _ by repeat (first | exact Below.refl _ _ | refine below_dN ?_ _ | refine Below.drew ?_ | refine Below.alloc ?_ (by first | omega | (simp; done) | (simp; omega)) _ | refine Below.setCell ?_ (by first | omega | (simp; done) | (simp; omega)) _ | refine below_step (by assumption) (by first | omega | (simp; done) | (simp; omega)) ?_)))
  obtain ⟨A, c, rfl⟩ := own_shape hv
  have HV := Lib.hid hv
  clear hb1 hv
  go_wp2
  refine bodyPost_ret (v := .slice A Y.2.length c) (by simp [results, Tryz.results20, go_sem, ↓IntWalk.iteOmega, *]) rfl ⟨⟨A, c, rfl, HV.out⟩, HB1.out⟩
end Go.Proofs.YtpobnjbpglaohaaGreat

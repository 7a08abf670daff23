/- sexpr: the laws' example, walked. -/
import Derived.Test.YtebgaicapjpohaaDoorSfD
namespace Go.Proofs.YtebgaicapjpohaaDoor
set_option linter.unusedSimpArgs false
set_option linter.unusedVariables false
open Go Go.RowKit
set_option linter.unusedVariables false

/-- The cells of an element of a row of expressions. -/
theorem row_cells {w : World} {bad : Nat → Prop} {A : Option Addr} {l : List Sx} {i : Nat} {k v ln c : Int} {t : List UInt8} {kids : List Sx} (h : RowAt w bad A 0 l) (hi : i < l.length) (he : sx l i = .mk k v ln c t kids) :
    ∃ b off A2 cap, A = some ⟨b, off, none⟩ ∧ b < w.heap.size ∧ ¬ bad b ∧ (A2 = none → cap = 0) ∧ kids.length ≤ cap ∧ RowAt w bad A2 0 kids ∧ w.cell? ⟨b, off + i * 6, none⟩ = some (.int .i64 k) ∧ w.cell? ⟨b, off + i * 6 + 1, none⟩ = some (.int .i64 v) ∧ w.cell? ⟨b, off + i * 6 + 2, none⟩ = some (.int .i64 ln) ∧ w.cell? ⟨b, off + i * 6 + 3, none⟩ = some (.int .i64 c) ∧ w.cell? ⟨b, off + i * 6 + 4, none⟩ = some (.string (bs t)) ∧ w.cell? ⟨b, off + i * 6 + 5, none⟩ = some (.slice A2 kids.length cap) := by
  obtain ⟨b, off, vs, h1, h2, h3, h4, h5⟩ := RowAt.get _ _ _ _ h hi
  rw [he] at h4
  unfold SxIs at h4
  obtain ⟨A2, cap, hvs, g1, g2, g3⟩ := h4
  subst hvs
  rw [Nat.zero_add] at h5
  exact ⟨b, off, A2, cap, h1, h2, h3, g1, g2, g3, h5 0 (by decide), h5 1 (by decide), h5 2 (by decide), h5 3 (by decide), h5 4 (by decide), h5 5 (by decide)⟩
def awKids : List Sx := [.mk 1 0 1 2 [97] [], .mk 1 0 1 4 [98] [], .mk 2 (-7) 1 6 [] []]
theorem awKids_ok : ∀ j, j < awKids.length → LeafOk (sx awKids j) := by
  intro j hj
  have : j = 0 ∨ j = 1 ∨ j = 2 := by have : awKids.length = 3 := rfl; omega
  rcases this with rfl | rfl | rfl
  · exact ⟨rfl, .inl ⟨rfl, rfl, by decide, by decide, by decide⟩⟩
  · exact ⟨rfl, .inl ⟨rfl, rfl, by decide, by decide, by decide⟩⟩
  · exact ⟨rfl, .inr ⟨rfl, rfl, by decide, by decide⟩⟩
theorem awKids_txt : (40 :: (Lib.join (awKids.map leafT) [32] ++ [41]) : List UInt8) = [40, 97, 32, 98, 32, 45, 55, 41] := by kernel_rfl

set_option maxRecDepth 20000 in
set_option maxHeartbeats 4000000 in
theorem awake01_any (w : World) (hE : EnvS w) : Calls Tryd.prog 5 #[] w fun e w' => e = .returned (.bool true) ∧ Below w.heap.size w w' := by
  have kr := read_any awText w (by decide)
  rw [show bs awText = ⟨#[40, 97, 32, 66, 32, 45, 55, 41, 32, 59, 32, 99, 10, 40, 41]⟩ from rfl] at kr
  have KR := Lib.hid kr
  have KW := Lib.hid (fun l c A cap W hr hE => write_call l c awKids A cap W awKids_ok hr (by decide) (by decide) hE (by rw [show (Lib.join (awKids.map leafT) [32]).length = 6 from by kernel_rfl]; decide))
  rw [awKids_txt] at KW
  rw [show bs [40, 97, 32, 98, 32, 45, 55, 41] = ⟨#[40, 97, 32, 98, 32, 45, 55, 41]⟩ from rfl, show bs [] = ⟨#[]⟩ from rfl, show awKids.length = 3 from rfl] at KW
  have HE := Lib.hid hE
  clear kr hE
  go_enter Tryd.func5, Tryd.ntmps5
  go_wp2_with fail
  refine KR.out.mono ?_
  intro e w1 hrd
  obtain ⟨hb1, hm⟩ := hrd
  rw [aw_read] at hm
  obtain ⟨V, rfl, A, cap, rfl, hA, hcap, hrow⟩ := hm
  obtain ⟨b, off, A0, cap0, rfl, hbl, _, hA0, hc0, hrow0, d0, d1, d2, d3, d4, d5⟩ := row_cells (i := 0) hrow (by decide) rfl
  obtain ⟨b', off', A1, cap1, hbb, _, _, _, _, _, q0, q1, q2, q3, q4, q5⟩ := row_cells (i := 1) hrow (by decide) rfl
  cases hbb
  have HB1 := Lib.hid hb1
  have HR0 := Lib.hid (show RowAt w1 (fun _ => False) A0 0 awKids from hrow0)
  have hl2 : awList.length = 2 := rfl
  rw [hl2]
  rw [hl2] at hcap
  simp only [Nat.zero_mul, Nat.add_zero, Nat.one_mul] at d0 d1 d2 d3 d4 d5 q0 q1 q2 q3 q4 q5
  rw [show bs [] = ⟨#[]⟩ from rfl] at d4
  simp only [List.length_cons, List.length_nil] at d5
  clear hb1 hrow hrow0 hA hA0 q1 q3 q4 q5 hc0
  go_wp2_with fail
  refine (KW.out 1 1 A0 cap0 w1 HR0.out (HE.out.up HB1.out)).mono ?_
  rintro e w2 ⟨rfl, hb2⟩
  have r0 := (hb2.cell (p := ⟨b, off + 6, none⟩) hbl).trans q0
  have r2 := (hb2.cell (p := ⟨b, off + 6 + 2, none⟩) hbl).trans q2
  have HB2 := Lib.hid (HB1.out.trans (hb2.mono HB1.out.size))
  clear hb2 d0 d1 d2 d3 d4 d5 q0 q2
  go_wp2
  refine bodyPost_ret (v := .bool true) (by simp [results, Tryd.results5, go_sem, ↓IntWalk.iteOmega, *]) rfl ⟨rfl, HB2.out⟩
end Go.Proofs.YtebgaicapjpohaaDoor

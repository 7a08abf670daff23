/- registry: has, Len, State, walked. -/
import Derived.Test.YtpobnjbpglaohaaGreatWgA
import Derived.Test.YtpobnjbpglaohaaGreatWpK
namespace Go.Proofs.YtpobnjbpglaohaaGreat
set_option linter.unusedSimpArgs false
set_option linter.unusedVariables false
open Go Go.RowKit Go.Maps
set_option linter.unusedVariables false

theorem RegC.shapeE {w : World} {base R p mb : Nat} {E : Value} {es : Array MapEntry} {F : List Fld} {n : Nat} {S : List (List Int)} {L : List (Int × Int × Int)} {wb : Nat → Nat} (h : RegC w base R p mb E es F n S L wb) : ∃ A c, E = .slice A S.length c := own_shape h.ents
set_option maxHeartbeats 2000000 in
theorem has_any {w : World} {base R p mb : Nat} {E : Value} {es : Array MapEntry} {F : List Fld} {n : Nat} {S : List (List Int)} {L : List (Int × Int × Int)} {wb : Nat → Nat} (h : RegC w base R p mb E es F n S L wb) (i : Nat) :
    Calls Tryz.prog 35 #[.pointer (some ⟨R, 0, none⟩), .int .i64 i] w fun e w' => e = .returned (.bool (decide (i < S.length))) ∧ Below w.heap.size w w' := by
  obtain ⟨A, c, rfl⟩ := h.shapeE
  have c1 := h.box.cell 1 _ rfl
  clear h
  go_enter Tryz.func35, Tryz.ntmps35
  go_wp2
  refine bodyPost_ret (v := .bool (decide (i < S.length))) (by simp [results, Tryz.results35, go_sem, ↓IntWalk.iteOmega, *]) rfl ⟨rfl, by repeat (first | exact Below.refl _ _ | refine below_dN ?_ _ | refine Below.drew ?_ | refine Below.alloc ?_ (by first | omega | (simp; done) | (simp; omega)) _ | refine Below.setCell ?_ (by first | omega | (simp; done) | (simp; omega)) _ | refine below_step (by assumption) (by first | omega | (simp; done) | (simp; omega)) ?_)⟩
set_option maxHeartbeats 2000000 in
theorem rlen_any {w : World} {base R p mb : Nat} {E : Value} {es : Array MapEntry} {F : List Fld} {n : Nat} {S : List (List Int)} {L : List (Int × Int × Int)} {wb : Nat → Nat} (h : RegC w base R p mb E es F n S L wb) :
    Calls Tryz.prog 11 #[.pointer (some ⟨R, 0, none⟩)] w fun e w' => e = .returned (.int .i64 S.length) ∧ Below w.heap.size w w' := by
  obtain ⟨A, c, rfl⟩ := h.shapeE
  have c1 := h.box.cell 1 _ rfl
  clear h
  go_enter Tryz.func11, Tryz.ntmps11
  go_wp2
  refine bodyPost_ret (v := .int .i64 S.length) (by simp [results, Tryz.results11, go_sem, ↓IntWalk.iteOmega, *]) rfl ⟨rfl, by repeat (first | exact Below.refl _ _ | refine below_dN ?_ _ | refine Below.drew ?_ | refine Below.alloc ?_ (by first | omega | (simp; done) | (simp; omega)) _ | refine Below.setCell ?_ (by first | omega | (simp; done) | (simp; omega)) _ | refine below_step (by assumption) (by first | omega | (simp; done) | (simp; omega)) ?_)⟩
theorem RegC.wrow {w : World} {base R p mb : Nat} {E : Value} {es : Array MapEntry} {F : List Fld} {n : Nat} {S : List (List Int)} {L : List (Int × Int × Int)} {wb : Nat → Nat} (h : RegC w base R p mb E es F n S L wb) {i : Nat} (hi : i < S.length) : RowX w w.heap.size (some ⟨wb i, 0, none⟩) n (u64C (wdsOf F n (stI S i))) := fun _ =>
  ⟨wb i, 0, rfl, (h.wds i hi).lt, fun j u hj => by
    rw [Nat.zero_add]
    exact (h.wds i hi).cell j u (by simpa using hj)⟩
set_option maxRecDepth 20000 in
set_option maxHeartbeats 2000000 in
theorem rstate_any {w : World} {base R p mb : Nat} {E : Value} {es : Array MapEntry} {F : List Fld} {n : Nat} {S : List (List Int)} {L : List (Int × Int × Int)} {wb : Nat → Nat} (h : RegC w base R p mb E es F n S L wb) (i : Nat) (hi : i < S.length) :
    Calls Tryz.prog 12 #[.pointer (some ⟨R, 0, none⟩), .int .i64 i] w fun e w' => (∃ g, e = .returned (.tuple #[.slice (some ⟨g, 0, none⟩) F.length F.length, .nilIface]) ∧ w.heap.size ≤ g ∧ BxI w' g 3 (ic (stI S i)).toArray) ∧ Below w.heap.size w w' := by
  obtain ⟨A, c, rfl⟩ := h.shapeE
  have KH := Lib.hid (fun W (k : Below w.heap.size w W) => has_any (h.keep (Kb.of_below (bad := fun _ => False) k) (fun _ hc => hc.elim) (fun _ hc => hc.elim) (fun _ hc => hc.elim)) i)
  have HR := Lib.hid h
  clear h
  go_enter Tryz.func12, Tryz.ntmps12
  go_wp2_with fail
  refine (KH.out _ (by repeat (first | exact Below.refl _ _ | refine below_dN ?_ _ | refine Below.drew ?_ | refine Below.alloc ?_ (by first | omega | (simp; done) | (simp; omega)) _ | refine Below.setCell ?_ (by first | omega | (simp; done) | (simp; omega)) _ | refine below_step (by assumption) (by first | omega | (simp; done) | (simp; omega)) ?_))).mono ?_
  rintro e w1 ⟨rfl, hb1⟩
  have HB1 := Lib.hid (show Below w.heap.size w w1 from below_step hb1 (show w.heap.size ≤ _ by simp) (show Below w.heap.size w _ by repeat (first | exact Below.refl _ _ | refine below_dN ?_ _ | refine Below.drew ?_ | refine Below.alloc ?_ (by first | omega | (simp; done) | (simp; omega)) _ | refine Below.setCell ?_ (by first | omega | (simp; done) | (simp; omega)) _ | refine below_step (by assumption) (by first | omega | (simp; done) | (simp; omega)) ?_)))
  rw [decide_eq_true hi]
  have HR1 := Lib.hid (HR.out.keep (Kb.of_below (bad := fun _ => False) HB1.out) (fun _ hc => hc.elim) (fun _ hc => hc.elim) (fun _ hc => hc.elim))
  go_wp2_with fail
  obtain ⟨g, rfl, hg1, hg2, hfz⟩ := own_frozen' HR1.out.ents (by omega)
  have d1 := own_cell HR1.out.ents (entC_get n wb L i 0 (by rw [HR1.out.len]; exact hi)).1
  rw [Nat.zero_add] at d1
  have KU := Lib.hid (fun W (k : Below w1.heap.size w1 W) => unpack_any F n p (fun b => base ≤ b) (stI S i) (some ⟨wb i, 0, none⟩) n W ((HR1.out.keep (Kb.of_below (bad := fun _ => False) k) (fun _ hc => hc.elim) (fun _ hc => hc.elim) (fun _ hc => hc.elim)).pk) HR1.out.fok ((HR1.out.keep (Kb.of_below (bad := fun _ => False) k) (fun _ hc => hc.elim) (fun _ hc => hc.elim) (fun _ hc => hc.elim)).wrow hi) (HR1.out.ok i hi))
  have HS1 := Lib.hid (show ∀ w' : World, Below w1.heap.size w1 w' → w'.cell? ⟨R, 0, none⟩ = some (.pointer (some ⟨p, 0, none⟩)) ∧ w'.cell? ⟨R, 1, none⟩ = some (.slice (some ⟨g, 0, none⟩) S.length c) ∧ w'.cell? ⟨g, i * 4, none⟩ = some (.slice (some ⟨wb i, 0, none⟩) n n) from fun w' hb' => ⟨(HR1.out.box.up hb').cell 0 _ rfl, (HR1.out.box.up hb').cell 1 _ rfl, (hb'.cell (p := ⟨g, _, none⟩) hg2).trans d1⟩)
  clear d1 hb1
  refine wp_region_G 12 (fun w' => w'.cell? ⟨R, 0, none⟩ = some (.pointer (some ⟨p, 0, none⟩)) ∧ w'.cell? ⟨R, 1, none⟩ = some (.slice (some ⟨g, 0, none⟩) S.length c) ∧ w'.cell? ⟨g, i * 4, none⟩ = some (.slice (some ⟨wb i, 0, none⟩) n n)) (by kernel_rfl) (HS1.out _ (by repeat (first | exact Below.refl _ _ | refine below_dN ?_ _ | refine Below.drew ?_ | refine Below.alloc ?_ (by first | omega | (simp; done) | (simp; omega)) _ | refine Below.setCell ?_ (by first | omega | (simp; done) | (simp; omega)) _ | refine below_step (by assumption) (by first | omega | (simp; done) | (simp; omega)) ?_))) ?_
  intro hG0
  refine wpS1 0 hG0 ?_; intro hG1; clear hG0
  refine wpS1 1 hG1 ?_; intro hG2; clear hG1
  refine wpS1 2 hG2 ?_; intro hG3; clear hG2
  refine wpS2 3 hG3 ?_; intro hG4; clear hG3
  refine wpS1 4 hG4 ?_; intro hG5; clear hG4
  refine wpS1 5 hG5 ?_; intro hG6; clear hG5
  refine wpS1 6 hG6 ?_; intro hG7; clear hG6
  refine wpS2 7 hG7 ?_; intro hG8; clear hG7
  refine wpS1 8 hG8 ?_; intro hG9; clear hG8
  refine wpS1 9 hG9 ?_; intro hG10; clear hG9
  refine wpS1 10 hG10 ?_; intro hG11; clear hG10
  refine wpS2 11 hG11 ?_; intro hG12; clear hG11
  refine wpAnyG_ready (rs := [12]) (by kernel_rfl) (by simp) (AllG.cons rfl hG12 (fun K hK => ?_) AllG.nil)
  (go_simp; go_at_call 16; refine (KU.out _ (by repeat (first | exact Below.refl _ _ | refine below_dN ?_ _ | refine Below.drew ?_ | refine Below.alloc ?_ (by first | omega | (simp; done) | (simp; omega)) _ | refine Below.setCell ?_ (by first | omega | (simp; done) | (simp; omega)) _ | refine below_step (by assumption) (by first | omega | (simp; done) | (simp; omega)) ?_))).mono ?_; rintro e w4 ⟨⟨g4, rfl, hg4, hx4⟩, hb4⟩; have HB4 := Lib.hid (show Below w1.heap.size w1 w4 from below_step hb4 (show w1.heap.size ≤ _ by simp) (show Below w1.heap.size w1 _ by repeat (first | exact Below.refl _ _ | refine below_dN ?_ _ | refine Below.drew ?_ | refine Below.alloc ?_ (by first | omega | (simp; done) | (simp; omega)) _ | refine Below.setCell ?_ (by first | omega | (simp; done) | (simp; omega)) _ | refine below_step (by assumption) (by first | omega | (simp; done) | (simp; omega)) ?_))); clear hb4)
  refine hK.out _ _ (Or.inl rfl) (fun hG13 => wpN ?_); clear hK hG12
  refine wpS1 13 hG13 ?_; intro hG14; clear hG13
  refine wpS1 14 hG14 ?_; intro hG15; clear hG14
  refine wpS1 15 hG15 ?_; intro hG16; clear hG15
  refine wpS1 16 hG16 ?_; intro hG17; clear hG16
  refine wpAnyG_done (by kernel_rfl) ?_ _; clear hG17
  go_wp2
  refine bodyPost_ret (v := .tuple #[.slice (some ⟨g4, 0, none⟩) F.length F.length, .nilIface]) (by simp [results, Tryz.results12, go_sem, ↓IntWalk.iteOmega, *]) rfl ⟨⟨_, rfl, Nat.le_trans HB1.out.size hg4, hx4⟩, HB1.out.trans (HB4.out.mono HB1.out.size)⟩
end Go.Proofs.YtpobnjbpglaohaaGreat

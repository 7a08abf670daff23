/- registry: find, walked. -/
import Derived.Test.YtpobnjbpglaohaaGreatWpL
namespace Go.Proofs.YtpobnjbpglaohaaGreat
set_option linter.unusedSimpArgs false
set_option linter.unusedVariables false
open Go Go.RowKit Go.Maps
set_option linter.unusedVariables false

theorem ids_at {F : List Fld} {n : Nat} {S : List (List Int)} {h : Int} {j : Nat} (hj : j < (idsH F n S h).length) : ∃ i : Nat, i < S.length ∧ nth (idsH F n S h) j = (i : Int) ∧ hashW (wdsOf F n (stI S i)) = h := by
  have hm : (idsH F n S h)[j] ∈ idsH F n S h := List.getElem_mem hj
  unfold idsH at hm
  obtain ⟨i, hi, e⟩ := List.mem_map.1 hm
  obtain ⟨h1, h2⟩ := List.mem_filter.1 hi
  refine ⟨i, List.mem_range.1 h1, ?_, by simpa using h2⟩
  unfold nth
  rw [List.getD, List.getElem?_eq_getElem hj]
  exact e.symm
theorem ids_mem {F : List Fld} {n : Nat} {S : List (List Int)} {h : Int} {i : Nat} (hi : i < S.length) (hh : hashW (wdsOf F n (stI S i)) = h) : ∃ j, j < (idsH F n S h).length ∧ nth (idsH F n S h) j = (i : Int) := by
  have hm : (i : Int) ∈ idsH F n S h := List.mem_map.2 ⟨i, List.mem_filter.2 ⟨List.mem_range.2 hi, by simpa using hh⟩, rfl⟩
  obtain ⟨j, hj, e⟩ := List.getElem_of_mem hm
  refine ⟨j, hj, ?_⟩
  unfold nth
  rw [List.getD, List.getElem?_eq_getElem hj]
  exact e
theorem ids_len (F : List Fld) (n : Nat) (S : List (List Int)) (h : Int) : (idsH F n S h).length ≤ S.length := by
  unfold idsH
  rw [List.length_map]
  exact Nat.le_trans (List.length_filter_le _ _) (by simp)
theorem hash_wf (W : List Nat) : (Lit.int .i64 (hashW W)).wf = true := by
  unfold hashW
  simp only [Lit.wf, IntKind.min, IntKind.max, IntKind.signed, IntKind.bits, wrap64, Bool.and_eq_true, decide_eq_true_eq, if_true]
  omega
/-- What find returns. -/
def FindIs (S : List (List Int)) (s : List Int) (r : Int) : Prop := (∃ i : Nat, i < S.length ∧ stI S i = s ∧ r = (i : Int)) ∨ ((∀ i, i < S.length → stI S i ≠ s) ∧ r = -1)
set_option maxRecDepth 20000 in
set_option maxHeartbeats 4000000 in
theorem rfind_any {w : World} {base R p mb : Nat} {E : Value} {es : Array MapEntry} {F : List Fld} {n : Nat} {S : List (List Int)} {L : List (Int × Int × Int)} {wb : Nat → Nat} (h : RegC w base R p mb E es F n S L wb) (s : List Int) (A : Option Addr) (c : Nat) (hs : IntsAt w w.heap.size A s) (hok : StOk F s) :
    Calls Tryz.prog 34 #[.pointer (some ⟨R, 0, none⟩), .slice A s.length c] w fun e w' => (∃ g r, e = .returned (.tuple #[.slice (some ⟨g, 0, none⟩) n n, .int .i64 (hashW (wdsOf F n s)), .int .i64 r, .nilIface]) ∧ FindIs S s r ∧ w.heap.size ≤ g ∧ BxI w' g 100 (u64C (wdsOf F n s)).toArray) ∧ Below w.heap.size w w' := by
  obtain ⟨EA, EC, rfl⟩ := h.shapeE
  have HR := Lib.hid h
  have HS := Lib.hid hs
  have HOK := Lib.hid hok
  have c0 := h.box.cell 0 _ rfl
  have KP := Lib.hid (fun W (k : Below w.heap.size w W) => pack_any F n p (fun b => base ≤ b) s A c W ((HR.out.keep (Kb.of_below (bad := fun _ => False) k) (fun _ hc => hc.elim) (fun _ hc => hc.elim) (fun _ hc => hc.elim)).pk) HR.out.fok (hs.keep (fun q hq => k.cell hq) k.size) hok)
  clear h hs hok
  go_enter Tryz.func34, Tryz.ntmps34
  go_wp2_with fail
  refine (KP.out _ (by repeat (first | exact Below.refl _ _ | refine below_dN ?_ _ | refine Below.drew ?_ | refine Below.alloc ?_ (by first | omega | (simp; done) | (simp; omega)) _ | refine Below.setCell ?_ (by first | omega | (simp; done) | (simp; omega)) _ | refine below_step (by assumption) (by first | omega | (simp; done) | (simp; omega)) ?_))).mono ?_
  rintro e w1 ⟨⟨g, rfl, hg, hx⟩, hb1⟩
  have HB1 := Lib.hid (show Below w.heap.size w w1 from below_step hb1 (show w.heap.size ≤ _ by simp) (show Below w.heap.size w _ by repeat (first | exact Below.refl _ _ | refine below_dN ?_ _ | refine Below.drew ?_ | refine Below.alloc ?_ (by first | omega | (simp; done) | (simp; omega)) _ | refine Below.setCell ?_ (by first | omega | (simp; done) | (simp; omega)) _ | refine below_step (by assumption) (by first | omega | (simp; done) | (simp; omega)) ?_)))
  have HX := Lib.hid hx
  have HG := Lib.hid (show w.heap.size ≤ g from Nat.le_trans (by simp) hg)
  have HR1 := Lib.hid (HR.out.keep (Kb.of_below (bad := fun _ => False) HB1.out) (fun _ hc => hc.elim) (fun _ hc => hc.elim) (fun _ hc => hc.elim))
  have c0 := HR1.out.box.cell 0 _ rfl
  clear hx hb1 hg
  go_wp2_with fail
  have HW1 := Lib.hid (show RowX w1 w1.heap.size (some ⟨g, 0, none⟩) n (u64C (wdsOf F n s)) from fun _ => ⟨g, 0, rfl, HX.out.lt, fun j u hj => by rw [Nat.zero_add]; exact HX.out.cell j u (by simpa using hj)⟩)
  have KH := Lib.hid (fun W (k : Below w1.heap.size w1 W) => hash_any (wdsOf F n s) p (some ⟨g, 0, none⟩) n W (by rw [wds_len]; exact HW1.out.keep k k.size) (by rw [wds_len]; exact HR.out.fok.few))
  simp only [wds_len] at KH
  refine (KH.out _ (by repeat (first | exact Below.refl _ _ | refine below_dN ?_ _ | refine Below.drew ?_ | refine Below.alloc ?_ (by first | omega | (simp; done) | (simp; omega)) _ | refine Below.setCell ?_ (by first | omega | (simp; done) | (simp; omega)) _ | refine below_step (by assumption) (by first | omega | (simp; done) | (simp; omega)) ?_))).mono ?_
  rintro e w2 ⟨rfl, hb2⟩
  have HB2 := Lib.hid (show Below w1.heap.size w1 w2 from below_step hb2 (show w1.heap.size ≤ _ by simp) (show Below w1.heap.size w1 _ by repeat (first | exact Below.refl _ _ | refine below_dN ?_ _ | refine Below.drew ?_ | refine Below.alloc ?_ (by first | omega | (simp; done) | (simp; omega)) _ | refine Below.setCell ?_ (by first | omega | (simp; done) | (simp; omega)) _ | refine below_step (by assumption) (by first | omega | (simp; done) | (simp; omega)) ?_)))
  have HR2 := Lib.hid (HR1.out.keep (Kb.of_below (bad := fun _ => False) HB2.out) (fun _ hc => hc.elim) (fun _ hc => hc.elim) (fun _ hc => hc.elim))
  have c2 := HR2.out.box.cell 2 _ rfl
  have HX2 := Lib.hid (HX.out.up HB2.out)
  have HB := Lib.hid (HB1.out.trans (HB2.out.mono HB1.out.size))
  obtain ⟨clock, hm⟩ := HR2.out.map
  obtain ⟨v, hv, hlk⟩ := tab_look hm HR2.out.tab (hash_wf (wdsOf F n s))
  have HROW := Lib.hid (HR2.out.rows _ v hv)
  obtain ⟨TA, TC, rfl⟩ := own_shape HROW.out
  obtain ⟨hq, hhq⟩ : ∃ x, x = hashW (wdsOf F n s) := ⟨_, rfl⟩
  have HHQ := Lib.hid hhq
  rw [← hhq] at hlk HROW
  rw [← hhq]
  clear hb2 hm hv hhq
  obtain ⟨m, hmm⟩ : ∃ x, x = (idsH F n S hq).length := ⟨_, rfl⟩
  have HM := Lib.hid hmm
  rw [← hmm] at hlk HROW
  have hml := ids_len F n S hq
  rw [← hmm] at hml
  clear hmm
  have hsm := HR.out.small
  go_wp2_with fail
  clear hlk
  go_loopw [38] (fun v38 wr => ∃ j : Nat, v38 = .int .i64 j ∧ j ≤ m ∧ Hid (∀ i : Nat, i < S.length → ∀ k, k < j → nth (idsH F n S hq) k = (i : Int) → stI S i ≠ s) ∧ Hid (Below w2.heap.size w2 wr)) (fun v _ => m - (RowKit.intOf v).toNat)
  case atStart => exact ⟨0, rfl, Nat.zero_le _, Lib.hid (fun i _ k hk => absurd hk (Nat.not_lt_zero _)), Lib.hid (by repeat (first | exact Below.refl _ _ | refine below_dN ?_ _ | refine Below.drew ?_ | refine Below.alloc ?_ (by first | omega | (simp; done) | (simp; omega)) _ | refine Below.setCell ?_ (by first | omega | (simp; done) | (simp; omega)) _ | refine below_step (by assumption) (by first | omega | (simp; done) | (simp; omega)) ?_))⟩
  case round =>
    obtain ⟨j, rfl, hj, HJ, HE⟩ := hrel
    by_cases hlt : j < m
    · obtain ⟨i, hi, hni, hhi⟩ := ids_at (F := F) (n := n) (S := S) (h := hq) (j := j) (by rw [← HM.out]; exact hlt)
      have HNI := Lib.hid hni
      clear hni hhi
      have HRr := Lib.hid (HR2.out.keep (Kb.of_below (bad := fun _ => False) HE.out) (fun _ hc => hc.elim) (fun _ hc => hc.elim) (fun _ hc => hc.elim))
      obtain ⟨tb, rfl, ht1, ht2, htz⟩ := own_frozen' HROW.out (by omega)
      have d0 := (HE.out.cell (p := ⟨tb, _, none⟩) ht2).trans (own_cell HROW.out (i := j) (u := .int .i64 (i : Nat)) (by
        have := ic_at (l := idsH F n S hq) (i := j) (by rw [← HM.out]; exact hlt)
        rw [HNI.out] at this
        simpa using this))
      obtain ⟨eg, rfl, hg1, hg2, hfz⟩ := own_frozen' HRr.out.ents (by omega)
      have d1 := own_cell HRr.out.ents (entC_get n wb L i 0 (by rw [HRr.out.len]; exact hi)).1
      rw [Nat.zero_add] at d1
      have c1 := HRr.out.box.cell 1 _ rfl
      have KE := Lib.hid (fun W (k : Below wr.heap.size wr W) => equalU_any (wdsOf F n (stI S i)) (wdsOf F n s) (some ⟨wb i, 0, none⟩) (some ⟨g, 0, none⟩) n n W (by rw [wds_len]; exact (HRr.out.wrow hi).keep k k.size) (by rw [wds_len]; exact (HW1.out.keep (HB2.out.trans ((HE.out.trans (k.mono HE.out.size)).mono HB2.out.size)) (HB2.out.trans ((HE.out.trans (k.mono HE.out.size)).mono HB2.out.size)).size)) (by rw [wds_len, wds_len]) (by rw [wds_len]; exact HR.out.fok.few))
      simp only [wds_len] at KE
      go_wp2_with fail
      refine (KE.out _ (by repeat (first | exact Below.refl _ _ | refine below_dN ?_ _ | refine Below.drew ?_ | refine Below.alloc ?_ (by first | omega | (simp; done) | (simp; omega)) _ | refine Below.setCell ?_ (by first | omega | (simp; done) | (simp; omega)) _ | refine below_step (by assumption) (by first | omega | (simp; done) | (simp; omega)) ?_))).mono ?_
      rintro e w4 ⟨rfl, hb4⟩
      have HB4 := Lib.hid (show Below wr.heap.size wr w4 from below_step hb4 (show wr.heap.size ≤ _ by simp) (show Below wr.heap.size wr _ by repeat (first | exact Below.refl _ _ | refine below_dN ?_ _ | refine Below.drew ?_ | refine Below.alloc ?_ (by first | omega | (simp; done) | (simp; omega)) _ | refine Below.setCell ?_ (by first | omega | (simp; done) | (simp; omega)) _ | refine below_step (by assumption) (by first | omega | (simp; done) | (simp; omega)) ?_)))
      clear hb4
      by_cases heq : wdsOf F n (stI S i) = wdsOf F n s
      · have HSI := Lib.hid (wds_inj HR.out.fok (HR.out.ok i hi) HOK.out heq)
        rw [decide_eq_true heq]
        clear heq
        go_wp2
        refine bodyPost_ret (v := .tuple #[.slice (some ⟨g, 0, none⟩) n n, .int .i64 hq, .int .i64 i, .nilIface]) (by simp [results, Tryz.results34, go_sem, ↓IntWalk.iteOmega, *]) rfl ⟨⟨g, i, by rw [HHQ.out], .inl ⟨i, hi, HSI.out, rfl⟩, HG.out, (HX2.out.up HE.out).up HB4.out⟩, HB.out.trans ((HE.out.trans (HB4.out.mono HE.out.size)).mono HB.out.size)⟩
      · rw [decide_eq_false heq]
        have HNE := Lib.hid heq
        clear heq
        go_wp2
        go_roundw
        case rel => exact ⟨j + 1, rfl, by omega, Lib.hid (fun i' hi' k hk hki => by
          by_cases e : k = j
          · subst e
            have : i' = i := by have := hki.symm.trans HNI.out; omega
            subst this
            intro e2
            exact HNE.out (by rw [e2])
          · exact HJ.out i' hi' k (by omega) hki), Lib.hid (HE.out.trans (HB4.out.mono HE.out.size))⟩
        case measure => simp [RowKit.intOf]; omega
    · obtain rfl : j = m := by omega
      go_wp2
      refine bodyPost_ret (v := .tuple #[.slice (some ⟨g, 0, none⟩) n n, .int .i64 hq, .int .i64 (-1), .nilIface]) (by simp [results, Tryz.results34, go_sem, ↓IntWalk.iteOmega, *]) rfl ⟨⟨g, -1, by rw [HHQ.out], .inr ⟨fun i hi e => ?_, rfl⟩, HG.out, HX2.out.up HE.out⟩, HB.out.trans (HE.out.mono HB.out.size)⟩
      obtain ⟨k, hk, hki⟩ := ids_mem (F := F) (n := n) (S := S) (h := hq) hi (by rw [e, HHQ.out])
      exact HJ.out i hi k (by rw [HM.out]; exact hk) hki e
end Go.Proofs.YtpobnjbpglaohaaGreat

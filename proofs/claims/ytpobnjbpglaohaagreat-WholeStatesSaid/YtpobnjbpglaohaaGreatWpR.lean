/- registry: Path, walked. -/
import Derived.Test.YtpobnjbpglaohaaGreatWpP
import Derived.Test.YtpobnjbpglaohaaGreatWqP
import Derived.Test.YtpobnjbpglaohaaGreatShlW
import Derived.Lib.OwnBridge
namespace Go.Proofs.YtpobnjbpglaohaaGreat
set_option linter.unusedSimpArgs false
set_option linter.unusedVariables false
open Go Go.RowKit Go.Maps Go.Sort
set_option linter.unusedVariables false

theorem ap_yes {t : Tsk} {s : List Int} {k : Nat} (hk : k < t.ops.length) (hs : stB t.vars s = true) (hp : hoB (opr t.ops k).pre s = true) : apC t s (k : Int) = 0 := by
  unfold apC
  rw [if_neg (by omega), if_neg (by omega)]
  simp [hs, hp]
def lnk (L : List (Int × Int × Int)) (j : Nat) : Int × Int × Int := L.getD j (0, 0, 0)
/-- The links tell how each state was reached. -/
def LinkOk (t : Tsk) (S : List (List Int)) (L : List (Int × Int × Int)) : Prop := ∀ j, j < S.length → (j = 0 ∧ (lnk L j).1 = -1) ∨ ∃ p k : Nat, (lnk L j).1 = (p : Int) ∧ (lnk L j).2.1 = (k : Int) ∧ p < j ∧ apC t (stI S p) (k : Int) = 0 ∧ nxt t (stI S p) k = stI S j
theorem path_more {t : Tsk} {S : List (List Int)} {o : List Int} {p k : Nat} {s : List Int} (h0 : apC t (stI S p) (k : Int) = 0) (hr : ∀ n, ∃ n', runS t o.reverse (nxt t (stI S p) k) n = (s, n', 0)) :
    ∀ n, ∃ n', runS t (o ++ [(k : Int)]).reverse (stI S p) n = (s, n', 0) := fun n => by
  rw [List.reverse_append]
  show ∃ n', runS t ((k : Int) :: o.reverse) (stI S p) n = (s, n', 0)
  unfold runS
  rw [if_pos h0]
  exact hr _
/-- Reverse, Sort of a row of the call's own, nil or not. -/
theorem reverse_own {w : World} {B : Nat} {o : List Int} {A : Option Addr} {c : Nat} (h : w.ownsRow B 3 1 (.slice A o.length c) o.length (ic o)) (ho : o.length ≤ 100000) :
    Calls Tryz.prog 43 #[.slice A o.length c] w fun e w' => e = .returned (.tuple #[]) ∧ w'.ownsRow B 3 1 (.slice A o.length c) o.length (ic o.reverse) ∧ Below B w w' := by
  by_cases h0 : o = []
  · subst h0
    exact (Tryz.slices_Reverse_int_empty A c w).mono (by rintro e w' ⟨rfl, rfl⟩; exact ⟨rfl, h, Below.refl _ _⟩)
  · obtain ⟨g, cap, hv, hb, hlt, _, _, hl, hh⟩ := Lib.holds_of_ownsRow (enc := Value.int .i64) (zs := o) h (fun e => by injection e with _ e2 _; exact h0 (List.length_eq_zero_iff.1 e2))
    injection hv with h1 _ h2
    subst h1 h2
    refine (Tryz.slices_Reverse_int g 0 c o w hh (by omega)).mono ?_
    rintro e w' ⟨rfl, q, rfl⟩
    have hr := Lib.ownsRow_putRow (q := q) (k := o.length) (ys := o.reverse) (enc := Value.int .i64) (zs := o) h (by simp) (Nat.le_refl _)
    rw [show o.reverse.take o.length = o.reverse from List.take_of_length_le (by simp)] at hr
    exact ⟨rfl, hr, Lib.below_putRow (Below.refl _ _) hb⟩
theorem grow_block {w : World} {os : Array Obj} {k : Nat} (h : k < w.heap.size) : (grow w os).heap[k]? = w.heap[k]? := by
  unfold grow
  simp [Array.getElem?_append_left h]
theorem own_grow {w : World} {os : Array Obj} {B s n : Nat} {e : TypeId} {v : Value} {xs : List Value} (h : w.ownsRow B e s v n xs) : (grow w os).ownsRow B e s v n xs := by
  rcases h.2 with ⟨rfl, h0⟩ | ⟨g, cap, cur, rfl, hB, hg, hh⟩
  · exact ⟨h.1, .inl ⟨rfl, h0⟩⟩
  · exact ⟨h.1, .inr ⟨g, cap, cur, rfl, hB, (grow_block (Array.getElem?_eq_some_iff.1 hg).1).trans hg, hh⟩⟩
theorem sort_own {w : World} {B : Nat} {o : List Int} {A : Option Addr} {c : Nat} (h : w.ownsRow B 3 1 (.slice A o.length c) o.length (ic o)) (ho : o.length ≤ 100000) (hB : B ≤ w.heap.size) :
    Calls Tryz.prog 71 #[.slice A o.length c] w fun e w' => e = .returned (.tuple #[]) ∧ w'.ownsRow B 3 1 (.slice A o.length c) o.length (ic (o.mergeSort fun x y => decide (x ≤ y))) ∧ Below B w w' ∧ Kb (fun b => (Value.slice A o.length c).ownBlock = some b) w w' := by
  by_cases h0 : o = []
  · subst h0
    exact (Tryz.slices_Sort_int_none A c w).mono (by rintro e w' ⟨rfl, rfl⟩; exact ⟨rfl, by simpa using h, Below.refl _ _, Kb.refl _ _⟩)
  · obtain ⟨g, cap, hv, hb, hlt, _, _, hl, hh⟩ := Lib.holds_of_ownsRow (enc := Value.int .i64) (zs := o) h (fun e => by injection e with _ e2 _; exact h0 (List.length_eq_zero_iff.1 e2))
    injection hv with h1 _ h2
    subst h1 h2
    refine (Tryz.slices_Sort_int g 0 c o w hh hlt (by omega)).mono ?_
    rintro e w' ⟨rfl, q, os, rfl⟩
    have hr := Lib.ownsRow_putRow (q := q) (k := o.length) (ys := o.mergeSort fun x y => decide (x ≤ y)) (enc := Value.int .i64) (zs := o) h (by simp) (Nat.le_refl _)
    rw [List.take_of_length_le (by simp)] at hr
    have hP : ∀ B', B' ≤ g → Below B' w (putRow (Value.int .i64) (Sort.ahead w q) g 0 (o.mergeSort fun x y => decide (x ≤ y)).toArray) := fun B' h => Lib.below_putRow (Below.refl _ _) h
    have hsz : (putRow (Value.int .i64) (Sort.ahead w q) g 0 (o.mergeSort fun x y => decide (x ≤ y)).toArray).heap.size = w.heap.size := by simp [putRow, mapBlock, Sort.ahead]
    have hG : Below B w (grow (putRow (Value.int .i64) (Sort.ahead w q) g 0 (o.mergeSort fun x y => decide (x ≤ y)).toArray) os) := by
      refine ⟨(hP B hb).os, (hP B hb).tape, (hP B hb).output, ?_, fun k hk => ?_⟩
      · unfold grow; simp [hsz]
      · exact (grow_block (by omega)).trans ((hP B hb).block k hk)
    refine ⟨rfl, own_grow hr, hG, hG.os, hG.tape, hG.output, hG.size, fun k hk hne => (grow_block (by omega)).trans ?_⟩
    have hne : g ≠ k := fun e => hne (by rw [← e]; rfl)
    simp [putRow, mapBlock, Sort.ahead, Array.getElem?_modify, hne]

set_option maxRecDepth 20000 in
set_option maxHeartbeats 4000000 in
theorem rpath_any {w : World} {base R p mb : Nat} {E : Value} {es : Array MapEntry} {F : List Fld} {n : Nat} {S : List (List Int)} {L : List (Int × Int × Int)} {wb : Nat → Nat} (h : RegC w base R p mb E es F n S L wb) {t : Tsk} (hL : LinkOk t S L) (i : Nat) (hi : i < S.length) :
    Calls Tryz.prog 22 #[.pointer (some ⟨R, 0, none⟩), .int .i64 i] w fun e w' => (∃ A c pl cost, e = .returned (.tuple #[.slice A pl.length c, .nilIface]) ∧ IntsAt w' w'.heap.size A pl ∧ pl.length ≤ 60000 ∧ runS t pl (stI S 0) 0 = (stI S i, cost, 0)) ∧ Below w.heap.size w w' := by
  obtain ⟨ii, hi1, iq0, iq1, iq2⟩ := info_parts infoI
  obtain ⟨g, c0, hE, hg1, hg2⟩ : ∃ g, ∃ c, E = .slice (some ⟨g, 0, none⟩) S.length c ∧ base ≤ g ∧ g < w.heap.size := by
    obtain ⟨A, c, rfl⟩ := h.shapeE
    obtain ⟨g, rfl, h1, h2, _⟩ := own_frozen' h.ents (by omega)
    exact ⟨g, c, rfl, h1, h2⟩
  subst hE
  have HR := Lib.hid h
  have HL := Lib.hid hL
  have hsm := h.small
  have hRlt := h.box.lt
  have KI := Lib.hid (fun W (k : Below w.heap.size w W) (i : Nat) => has_any (h.keep (Kb.of_below (bad := fun _ => False) k) (fun _ hc => hc.elim) (fun _ hc => hc.elim) (fun _ hc => hc.elim)) i)
  clear h hL
  go_enter Tryz.func22, Tryz.ntmps22
  go_wp2_with fail
  refine (KI.out _ (by repeat (first | exact Below.refl _ _ | refine below_dN ?_ _ | refine Below.drew ?_ | refine Below.alloc ?_ (by first | omega | (simp; done) | (simp; omega)) _ | refine Below.setCell ?_ (by first | omega | (simp; done) | (simp; omega)) _ | refine below_step (by assumption) (by first | omega | (simp; done) | (simp; omega)) ?_)) i).mono ?_
  rintro e w1 ⟨rfl, hb1⟩
  rw [decide_eq_true hi]
  have HB1 := Lib.hid (show Below w.heap.size w w1 from below_step hb1 (show w.heap.size ≤ _ by simp) (show Below w.heap.size w _ by repeat (first | exact Below.refl _ _ | refine below_dN ?_ _ | refine Below.drew ?_ | refine Below.alloc ?_ (by first | omega | (simp; done) | (simp; omega)) _ | refine Below.setCell ?_ (by first | omega | (simp; done) | (simp; omega)) _ | refine below_step (by assumption) (by first | omega | (simp; done) | (simp; omega)) ?_)))
  have hz1 := HB1.out.size
  clear hb1
  go_wp2_with fail
  go_loopw [1, 6] (fun v1 v6 wr => ∃ (j : Nat) (o : List Int) (OA : Option Addr) (OC : Nat), v1 = .int .i64 j ∧ v6 = .slice OA o.length OC ∧ j < S.length ∧ o.length + j ≤ i ∧ Hid (wr.ownsRow w.heap.size 3 1 (.slice OA o.length OC) o.length (ic o)) ∧ Hid (Below w.heap.size w wr) ∧ Hid (∀ n, ∃ n', runS t o.reverse (stI S j) n = (stI S i, n', 0))) (fun v _ _ => (RowKit.intOf v).toNat)
  case atStart => exact ⟨i, [], none, 0, rfl, rfl, hi, by simp, Lib.hid (World.ownsRow_nil _ _ _ _), HB1, Lib.hid (fun n => ⟨n, rfl⟩)⟩
  case round =>
    obtain ⟨j, o, OA, OC, rfl, rfl, hj, hoj, HO, HE, HRUN⟩ := hrel
    have HRr := Lib.hid (HR.out.keep (Kb.of_below (bad := fun _ => False) HE.out) (fun _ hc => hc.elim) (fun _ hc => hc.elim) (fun _ hc => hc.elim))
    have hzr := HE.out.size
    have c1 := HRr.out.box.cell 1 _ rfl
    obtain ⟨e0, e1, e2, e3⟩ := entC_get n wb L j 0 (by rw [HR.out.len]; exact hj)
    have d1 := own_cell HRr.out.ents e1
    have d2 := own_cell HRr.out.ents e2
    have d3 := own_cell HRr.out.ents e3
    obtain ⟨la, lb, lc, hl⟩ : ∃ a b c, L.getD j (0, 0, 0) = (a, b, c) := ⟨_, _, _, rfl⟩
    rw [hl] at d1 d2 d3
    have HLJ := Lib.hid (show lnk L j = (la, lb, lc) from hl)
    clear e0 e1 e2 e3 hl
    rcases HL.out j hj with ⟨h0, h1⟩ | ⟨q, k, h1, h2, h3, h4, h5⟩
    · rw [HLJ.out] at h1
      dsimp only at h1
      subst h1 h0
      go_wp2_with fail
      refine (reverse_own (HO.out.alloc _) (by omega)).mono ?_
      rintro e w5 ⟨rfl, hown5, hb5⟩
      have HB5 := Lib.hid (show Below w.heap.size w w5 from (HE.out.alloc hzr _).trans hb5)
      obtain ⟨A5, c5, e5, h5⟩ := own_ints (l := o.reverse) (by rw [List.length_reverse]; exact hown5) (by simp; omega)
      injection e5 with e5 _ e6
      subst e5 e6
      have H5 := Lib.hid h5
      have hol : o.length ≤ 60000 := by omega
      clear hown5 hb5 h5 d1 d2 d3 c1 hj hoj
      dsimp only
      go_wp2
      refine bodyPost_ret (v := .tuple #[.slice OA o.length OC, .nilIface]) (by simp [results, Tryz.results22, go_sem]) rfl ⟨?_, HB5.out⟩
      obtain ⟨n', hrun⟩ := HRUN.out 0
      exact ⟨OA, OC, o.reverse, n', by rw [List.length_reverse], H5.out, by simp; omega, hrun⟩
    · rw [HLJ.out] at h1 h2
      dsimp only at h1 h2
      subst h1 h2
      go_wp2_with (at_builtin; refine wpList_append_src (by rfl) _ _ 22 (by rfl) w.heap.size 3 ii (.int .i64 0) 1 8 undI hi1 iq0 iq1 iq2 rfl (by decide) (.slice OA o.length OC) o.length (ic o) (by rfl) (by exact (HO.out.alloc _).alloc _) (some ⟨wr.heap.size + 1, 0, none⟩) 1 1 [.int .i64 (k : Nat)] (by rfl) (src_of (BxI.new2 wr _ 3 _) rfl (by intro u hu; simp at hu; subst hu; rfl)) (by unfold maxLen; omega) (by omega) (by first | omega | (simp; done) | (simp; omega)) ?_; intro v9 w9 hown9 hgrow9 hat9; obtain ⟨A9, c9, rfl⟩ := own_shape hown9; have hsz9 := hgrow9.size; have HO9 := Lib.hid hown9; have HG9 := Lib.hid hgrow9; have HX9 := Lib.hid (show BxI w9 R 87 #[.pointer (some ⟨p, 0, none⟩), .slice (some ⟨g, 0, none⟩) S.length c0, .map (some mb)] from (HRr.out.box.up (show Below wr.heap.size wr _ by repeat (first | exact Below.refl _ _ | refine below_dN ?_ _ | refine Below.drew ?_ | refine Below.alloc ?_ (by first | omega | (simp; done) | (simp; omega)) _ | refine Below.setCell ?_ (by first | omega | (simp; done) | (simp; omega)) _ | refine below_step (by assumption) (by first | omega | (simp; done) | (simp; omega)) ?_))).grown hgrow9 (fun e => by have := (HO.out.lt R e.symm).1; omega)); have HL9 := Lib.hid (show BxI w9 wr.heap.size 96 #[.int .i64 q, .int .i64 k, .int .i64 lc] from ((BxI.new wr _ _).up (show Below (wr.alloc _).heap.size (wr.alloc _) _ from (Below.refl _ _).alloc (Nat.le_refl _) _)).grown hgrow9 (fun e => by have := (HO.out.lt _ e.symm).2; omega)); have x1 := HX9.out.cell 1 _ rfl; have x2 := HL9.out.cell 0 _ rfl; clear hown9 hgrow9 hat9)
      go_roundw
      case rel => exact ⟨q, o ++ [(k : Int)], A9, c9, rfl, by rw [List.length_append]; rfl, by omega, by rw [List.length_append]; simp; omega, Lib.hid (by rw [List.length_append, ← ic_push]; exact HO9.out), Lib.hid (((HE.out.alloc hzr _).alloc (by simp; omega) _).grown HG9.out (by simp; omega) (fun b hb => (HO.out.lt b hb).1)), Lib.hid (path_more h4 (by rw [h5]; exact HRUN.out))⟩
      case measure => simp [RowKit.intOf]; omega
end Go.Proofs.YtpobnjbpglaohaaGreat

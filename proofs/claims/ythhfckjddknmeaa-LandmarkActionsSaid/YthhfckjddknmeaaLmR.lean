/- The reference's Reach. -/
import Derived.Test.YthhfckjddknmeaaLmD
import Derived.Test.YthhfckjddknmeaaLmE
namespace Go.Proofs.Ythhfckjddknmeaa
set_option linter.unusedSimpArgs false
set_option linter.unusedVariables false
open Go Go.RowKit
set_option linter.unusedVariables false

/-- A table that is being gathered: k rows are there. -/
structure TabX (w : World) (B : Nat) (v : Value) (k : Nat) (rb L : Nat → Nat) (M : Nat → Nat → Bool) (xs : List Value) : Prop where
  own : w.ownsRow B 41 1 v k xs
  top : ∀ j, j < k → xs[j]? = some (.slice (some ⟨rb j, 0, none⟩) (L j) (L j))
  row : ∀ j, j < k → w.rowIs (rb j) 4 (L j) fun c => .bool (M j c)
  low : ∀ j, j < k → B ≤ rb j
  inj : ∀ i j, i < k → j < k → rb i = rb j → i = j
section
variable {w w' : World} {B k : Nat} {v v' : Value} {rb L : Nat → Nat} {M M' : Nat → Nat → Bool} {xs : List Value}
theorem TabX.nil (w : World) (B : Nat) (rb L : Nat → Nat) (M : Nat → Nat → Bool) : TabX w B (.slice none 0 0) 0 rb L M [] :=
  ⟨World.ownsRow_nil _ _ _ _, fun j hj => absurd hj (Nat.not_lt_zero _), fun j hj => absurd hj (Nat.not_lt_zero _), fun j hj => absurd hj (Nat.not_lt_zero _), fun i j hi => absurd hi (Nat.not_lt_zero _)⟩
theorem TabX.up (h : TabX w B v k rb L M xs) (hb : Below w.heap.size w w') : TabX w' B v k rb L M xs :=
  ⟨own_below h.own hb, h.top, fun j hj => row_up (h.row j hj) hb, h.low, h.inj⟩
theorem TabX.push (h : TabX w B v k rb L M xs) {H : Nat} (hH : w.rowIs H 4 (L k) fun _ => .bool false) (hM : ∀ c, M k c = false) (hB : B ≤ H) (hne : ∀ j, j < k → rb j ≠ H) (hg : w.grownBy w' v.ownBlock)
    (ho : w'.ownsRow B 41 1 v' (k + 1) (xs ++ [.slice (some ⟨H, 0, none⟩) (L k) (L k)])) : TabX w' B v' (k + 1) (fun j => if j = k then H else rb j) L M (xs ++ [.slice (some ⟨H, 0, none⟩) (L k) (L k)]) := by
  have hxl : xs.length = k := by have := h.own.1; simpa using this
  refine ⟨ho, fun j hj => ?_, fun j hj => ?_, fun j hj => ?_, fun i j hi hj e => ?_⟩
  · by_cases e : j = k
    · subst e
      rw [if_pos rfl, ← hxl, List.getElem?_append_right (Nat.le_refl _)]; simp
    · rw [if_neg e, List.getElem?_append_left (by omega)]; exact h.top j (by omega)
  · by_cases e : j = k
    · subst e
      rw [if_pos rfl]
      exact (row_grown hH hg (row_own_ne hH h.own (by decide))).congr fun c _ => by rw [hM c]
    · rw [if_neg e]
      exact row_grown (h.row j (by omega)) hg (row_own_ne (h.row j (by omega)) h.own (by decide))
  · by_cases e : j = k
    · rw [if_pos e]; exact hB
    · rw [if_neg e]; exact h.low j (by omega)
  · by_cases e1 : i = k <;> by_cases e2 : j = k
    · omega
    · rw [if_pos e1, if_neg e2] at e; exact absurd e.symm (hne j (by omega))
    · rw [if_neg e1, if_pos e2] at e; exact absurd e (hne i (by omega))
    · rw [if_neg e1, if_neg e2] at e; exact h.inj i j (by omega) (by omega) e
theorem TabX.put (h : TabX w B v k rb L M xs) {j u : Nat} (hj : j < k) : TabX (w.setCell ⟨rb j, u, none⟩ (.bool true)) B v k rb L (put2 M j u) xs := by
  refine ⟨own_set' h.own (fun e => ?_), h.top, fun i hi => ?_, h.low, h.inj⟩
  · exact (row_own_ne (h.row j hj) h.own (by decide)) e.symm
  · by_cases e : i = j
    · subst e
      exact ((h.row i hi).set u _).congr fun c hc => by unfold put2; by_cases e : c = u <;> simp [e]
    · refine ((h.row i hi).setOther (fun e2 => e (h.inj i j hi hj e2)) _).congr fun c hc => ?_
      unfold put2
      have : (i == j) = false := by simp; omega
      rw [this]; simp
theorem TabX.congr (h : TabX w B v k rb L M xs) (e : ∀ j, j < k → ∀ c, M j c = M' j c) : TabX w B v k rb L M' xs :=
  ⟨h.own, h.top, fun j hj => (h.row j hj).congr fun c _ => by rw [e j hj c], h.low, h.inj⟩
theorem TabX.drew (h : TabX w B v k rb L M xs) : TabX w.drew B v k rb L M xs := ⟨h.own, h.top, h.row, h.low, h.inj⟩
theorem TabX.done (h : TabX w B v k rb L M xs) {g0 : Nat} (hg0 : g0 < w.heap.size) (hg1 : ∀ j, j < k → rb j ≠ g0) : ∃ A c g, v = .slice A k c ∧ (0 < k → A = some ⟨g, 0, none⟩) ∧ MatIs w g k rb L M := by
  rcases h.own.2 with ⟨rfl, h0⟩ | ⟨g, cap, cur, rfl, hb, hg, hnc, hcm, hcs, htk⟩
  · exact ⟨none, 0, g0, by rw [h0], fun hp => absurd hp (by omega), hg0, fun j hj => absurd hj (by omega), fun j hj => absurd hj (by omega), fun i j hi => absurd hi (by omega), fun j hj => absurd hj (by omega)⟩
  · refine ⟨some ⟨g, 0, none⟩, cap, g, rfl, fun _ => rfl, (Array.getElem?_eq_some_iff.1 hg).1, fun j hj => ?_, h.row, h.inj, fun j hj e => ?_⟩
    · have h1 := h.top j hj
      rw [← htk, List.getElem?_take, if_pos (by omega)] at h1
      have h2 := cell_of_row w g j cur 41 (0, 0) hg
      rw [show cur[j]? = some (.slice (some ⟨rb j, 0, none⟩) (L j) (L j)) by simpa using h1] at h2
      exact h2
    · have := row_own_ne (h.row j hj) h.own (by decide)
      exact this (by rw [e]; rfl)
end
def ClK (t : Tsk) (a : Int × Int) (M : Nat → Nat → Bool) (k j : Nat) : Prop := ∀ k' j', ((k' < k ∧ j' < (opr t.ops k').effs.length) ∨ (k' = k ∧ j' < j)) → efF t k' j' ≠ a → hsM (opr t.ops k').pre M = true → hsM (eff (opr t.ops k').effs j').whn M = true → M (efF t k' j').1.toNat (efF t k' j').2.toNat = true
section
variable {t : Tsk} {a : Int × Int} {M : Nat → Nat → Bool}
theorem clK_zero : ClK t a M 0 0 := fun k' j' h => by omega
theorem clK_row {k : Nat} (h : ClK t a M k (opr t.ops k).effs.length) : ClK t a M (k + 1) 0 := fun k' j' hh => by
  refine h k' j' ?_
  rcases hh with ⟨h1, h2⟩ | ⟨_, h2⟩
  · by_cases e : k' = k
    · subst e; exact .inr ⟨rfl, h2⟩
    · exact .inl ⟨by omega, h2⟩
  · omega
theorem clK_step {k j : Nat} (h : ClK t a M k j) (hn : efF t k j ≠ a → hsM (opr t.ops k).pre M = true → hsM (eff (opr t.ops k).effs j).whn M = true → M (efF t k j).1.toNat (efF t k j).2.toNat = true) : ClK t a M k (j + 1) := fun k' j' hh => by
  rcases hh with h1 | ⟨rfl, h2⟩
  · exact h k' j' (.inl h1)
  · by_cases e : j' = j
    · subst e; exact hn
    · exact h k' j' (.inr ⟨rfl, by omega⟩)
theorem clK_end (h : ClK t a M t.ops.length 0) : ClosM t a M := fun k hk j hj => h k j (.inl ⟨hk, hj⟩)
end
def RReaRet (t : Tsk) (s : List Int) (a : Int × Int) (e : Ending) (w' : World) : Prop :=
  ∃ A c g rb, e = .returned (.slice A t.vars.length c) ∧ (0 < t.vars.length → A = some ⟨g, 0, none⟩) ∧ MatIs w' g t.vars.length rb (Ld t) (rcB t s a)

set_option maxRecDepth 100000 in
set_option maxHeartbeats 16000000 in
theorem rreach_any (t : Tsk) (p : Lies) (s : List Int) (AS : Option Addr) (cs : Nat) (a1 a2 : Int) (w : World) (ht : TaskAt w w.heap.size t p) (hs : IntsAt w w.heap.size AS s) (hst : stB t.vars s = true) (hr : Right t) :
    Calls Try.prog 36 #[TaskV t p, .slice AS s.length cs, .agg #[.int .i64 a1, .int .i64 a2]] w fun e w' => RReaRet t s (a1, a2) e w' ∧ Below w.heap.size w w' := by
  have n64 := hr.nv
  have o64 := hr.no
  have HR := Lib.hid hr
  have Hst := Lib.hid (show StP t.vars s by unfold stB at hst; simpa using hst)
  have Hsn : Hid (s.length = t.vars.length) := Lib.hid Hst.out.1
  obtain ⟨av, ai, ag, ao, cv, ci, cg, co⟩ := p
  unfold TaskV
  dsimp only
  clear hr hst
  obtain ⟨inb, hib, bz0, bz1, bz2⟩ := info_parts infoBs
  go_enter Try.func36, Try.ntmps36
  go_wp2
  go_loopw [7, 18] (fun v i wr => ∃ (k : Nat) (rb : Nat → Nat) (xs : List Value), k ≤ t.vars.length ∧ i = .int .i64 k ∧ Hid (TabX wr (w.heap.size + 2) v k rb (Ld t) (stM s k) xs) ∧ Boxed wr w.heap.size t ⟨av, ai, ag, ao, cv, ci, cg, co⟩ ∧ wr.cell? ⟨w.heap.size + 1, 0, none⟩ = some (.int .i64 a1) ∧ wr.cell? ⟨w.heap.size + 1, 1, none⟩ = some (.int .i64 a2) ∧ Hid (w.heap.size + 2 ≤ wr.heap.size) ∧ Below w.heap.size w wr) (fun _ i _ => t.vars.length - (intOf i).toNat)
  case atStart => exact ⟨0, fun _ => 0, [], by omega, rfl, Lib.hid (TabX.nil _ _ _ _ _), by constructor <;> first | (simp; done) | (simp; omega), by simp, by simp, Lib.hid (by simp), by repeat (first | exact Below.refl _ _ | refine below_dN ?_ _ | refine Below.drew ?_ | refine Below.alloc ?_ (by first | omega | (simp; done) | (simp; omega)) _ | refine Below.setCell ?_ (by first | omega | (simp; done) | (simp; omega)) _ | refine below_step (by assumption) (by first | omega | (simp; done) | (simp; omega)) ?_)⟩
  case round =>
    obtain ⟨k, rb, xs, hk, rfl, htab, hbox, ha0, ha1, hsz, hbel⟩ := hrel
    obtain ⟨z0, y0, y1, y2, y3⟩ := id hbox
    dsimp only at y0 y1 y2 y3
    have hsz2 := hsz.out
    have hbz := hbel.size
    by_cases hlt : k < t.vars.length
    · obtain ⟨b1, o1, ea, hb1, hc1⟩ := ht.vars.at_ hlt
      dsimp only at ea
      subst ea
      have d1 := (hbel.cell (p := ⟨b1, o1 + k, none⟩) hb1).trans (hc1 k hlt)
      obtain ⟨b2, o2, eb, hb2, hc2⟩ := hs.at_ (show k < s.length by have := Hsn.out; omega)
      subst eb
      have d2 := (hbel.cell (p := ⟨b2, o2 + k, none⟩) hb2).trans (hc2 k (by have := Hsn.out; omega))
      have hd := HR.out.dom k hlt
      obtain ⟨m, hm⟩ : ∃ m : Nat, nth t.vars k = (m : Int) := ⟨(nth t.vars k).toNat, by omega⟩
      have hsk := Hst.out.2 k (by have := Hsn.out; omega)
      obtain ⟨x, hx⟩ : ∃ x : Nat, nth s k = (x : Int) := ⟨(nth s k).toNat, by omega⟩
      have hLk : Ld t k = m := by unfold Ld; rw [hm]; simp
      have hxk : (nth s k).toNat = x := by rw [hx]; simp
      have hmk2 := run_make_row' (P := Try.prog) 41 4 (.bool false) 1 undB infoB rfl .i64 .i64 m (by omega) (by omega)
      rw [hm] at d1 hsk hd
      rw [hx] at d2 hsk
      have hxm : x < m := by omega
      have Hxk := Lib.hid hxk
      have HLk := Lib.hid hLk
      have g1 : b1 < wr.heap.size := by omega
      have g2 : b2 < wr.heap.size := by omega
      clear hc1 hc2 hm hx hxk hLk
      have k0 : (0 : Int) ≤ (k : Int) := by omega
      have k1 : (k : Int) < (t.vars.length : Int) := by omega
      have k2 : (k : Int) < (s.length : Int) := by have := Hsn.out; omega
      have x0 : (0 : Int) ≤ (x : Int) := by omega
      have x1 : (x : Int) < (m : Int) := by omega
      have HW0 : Hid (Below wr.heap.size wr ((wr.alloc (.cells (madeCells #[.bool false] m) 4)).alloc (.cells #[.slice (some ⟨wr.heap.size, 0, none⟩) m m] 41))) := Lib.hid (((Below.refl _ _).alloc (Nat.le_refl _) _).alloc (by simp) _)
      have HH : Hid (((wr.alloc (.cells (madeCells #[.bool false] m) 4)).alloc (.cells #[.slice (some ⟨wr.heap.size, 0, none⟩) m m] 41)).rowIs wr.heap.size 4 m fun _ => .bool false) := Lib.hid ((World.rowIs_made wr (.bool false) m 4).alloc _)
      go_wp2_with (at_builtin; refine wpList_push rfl _ _ 83 rfl (w.heap.size + 2) 41 inb (.slice none 0 0) 1 24 undBs hib bz0 bz1 bz2 rfl (by decide) (by decide) u7 k xs rfl (own_below htab.out.own HW0.out) (wr.heap.size + 1) 41 [.slice (some ⟨wr.heap.size, 0, none⟩) m m] rfl rfl (by have := heap_alloc_new (wr.alloc (.cells (madeCells #[.bool false] m) 4)) (.cells #[.slice (some ⟨wr.heap.size, 0, none⟩) m m] 41); rw [World.size_alloc] at this; exact this) (one_one rfl) (by omega) (by simp; omega) (B := w.heap.size + 2) (W := wr) (HW0.out.mono hsz2) (Nat.le_refl _) ?_; intro v6 w6 hown6 hgrow6 hat6 hb6; have htx := (htab.out.up HW0.out).push (H := wr.heap.size) (by rw [HLk.out]; exact HH.out) (fun c => by unfold stM; simp) hsz2 (fun j hj => by have := (htab.out.row j hj).lt; omega) hgrow6 (by rw [HLk.out]; exact hown6); have hz6 := hgrow6.size; simp only [World.size_alloc] at hz6; obtain ⟨g, cap, rfl, hgl, hg⟩ := own_form htx.own (Nat.succ_pos _); have u1 := (htx.own.cellAt k (by omega)).trans (htx.top k (Nat.lt_succ_self _)); have hr6 := htx.row k (Nat.lt_succ_self _); have Htx := Lib.hid htx; clear htx hown6 hgrow6 hat6)
      simp only [↓reduceIte] at u1 hr6
      rw [HLk.out] at u1 hr6
      have u2 := hr6.cell hxm
      have u3 := hr6.frozen x
      have u4 := hr6.lt
      have u5 : w6.cell? ⟨b2, o2 + k, none⟩ = some (.int .i64 (x : Int)) := (hb6.cell (p := ⟨b2, o2 + k, none⟩) (by show b2 < _; omega)).trans d2
      have v6b := hbox.low hb6 (by omega)
      have a6 := (hb6.cell (p := ⟨w.heap.size + 1, 0, none⟩) (Nat.lt_succ_self _)).trans ha0
      have a7 := (hb6.cell (p := ⟨w.heap.size + 1, 1, none⟩) (Nat.lt_succ_self _)).trans ha1
      have hb6w := hbel.trans (hb6.mono (show w.heap.size ≤ w.heap.size + 2 by omega))
      have kz : (k : Int) < ((k + 1 : Nat) : Int) := by omega
      have kz2 : (k : Int) < (k : Int) + 1 := by omega
      go_wp2_with fail
      refine wp_region_G 9 (fun w' => w'.cell? ⟨g, k, none⟩ = some (.slice (some ⟨wr.heap.size, 0, none⟩) m m) ∧ w'.cell? ⟨b2, o2 + k, none⟩ = some (.int .i64 (x : Int))) (by kernel_rfl) (⟨u1, u5⟩) ?_
      intro hG0
      refine wpAnyG_any (i := 0) (v := ?_) rfl hG0 (by kernel_rfl) (by kernel_rfl) (by kernel_rfl) rfl (fun _ _ _ h => h) (Or.inl ⟨by rfl, ?_⟩) ?_; rotate_left; (intro wS hSw; (try dsimp only at hSw); first | (go_simp; done) | (go_simp; with_reducible rfl) | (simp [go_sem, ↓IntWalk.iteOmega, *]; done) | (simp [go_sem, ↓IntWalk.iteOmega, *]; with_reducible rfl)); (intro hG1); clear hG0; (try simp only [Act.put, List.setIfInBounds_toArray, List.set_cons_zero, List.set_cons_succ, List.getElem_toArray, List.getElem_cons_succ, List.getElem_cons_zero])
      refine wpAnyG_any (i := 1) (v := ?_) rfl hG1 (by kernel_rfl) (by kernel_rfl) (by kernel_rfl) rfl (fun _ _ _ h => h) (Or.inl ⟨by rfl, ?_⟩) ?_; rotate_left; (intro wS hSw; (try dsimp only at hSw); first | (go_simp; done) | (go_simp; with_reducible rfl) | (simp [go_sem, ↓IntWalk.iteOmega, *]; done) | (simp [go_sem, ↓IntWalk.iteOmega, *]; with_reducible rfl)); (intro hG2); clear hG1; (try simp only [Act.put, List.setIfInBounds_toArray, List.set_cons_zero, List.set_cons_succ, List.getElem_toArray, List.getElem_cons_succ, List.getElem_cons_zero])
      refine wpAnyG_any (i := 2) (v := ?_) rfl hG2 (by kernel_rfl) (by kernel_rfl) (by kernel_rfl) rfl (fun _ _ _ h => h) (Or.inl ⟨by rfl, ?_⟩) ?_; rotate_left; (intro wS hSw; (try dsimp only at hSw); first | (go_simp; done) | (go_simp; with_reducible rfl) | (simp [go_sem, ↓IntWalk.iteOmega, *]; done) | (simp [go_sem, ↓IntWalk.iteOmega, *]; with_reducible rfl)); (intro hG3); clear hG2; (try simp only [Act.put, List.setIfInBounds_toArray, List.set_cons_zero, List.set_cons_succ, List.getElem_toArray, List.getElem_cons_succ, List.getElem_cons_zero])
      refine wpAnyG_take (i := 3) (v := ?_) rfl hG3 (by kernel_rfl) (by kernel_rfl) (by kernel_rfl) rfl (by kernel_rfl) (fun _ _ _ h => h) (Or.inl ⟨by rfl, ?_⟩) ?_; rotate_left; (intro wS hSw; (try dsimp only at hSw); first | (go_simp; done) | (go_simp; with_reducible rfl) | (simp [go_sem, ↓IntWalk.iteOmega, *]; done) | (simp [go_sem, ↓IntWalk.iteOmega, *]; with_reducible rfl)); (intro hG4); clear hG3; (try simp only [Act.put, List.setIfInBounds_toArray, List.set_cons_zero, List.set_cons_succ, List.getElem_toArray, List.getElem_cons_succ, List.getElem_cons_zero])
      refine wpAnyG_any (i := 4) (v := ?_) rfl hG4 (by kernel_rfl) (by kernel_rfl) (by kernel_rfl) rfl (fun _ _ _ h => h) (Or.inl ⟨by rfl, ?_⟩) ?_; rotate_left; (intro wS hSw; (try dsimp only at hSw); first | (go_simp; done) | (go_simp; with_reducible rfl) | (simp [go_sem, ↓IntWalk.iteOmega, *]; done) | (simp [go_sem, ↓IntWalk.iteOmega, *]; with_reducible rfl)); (intro hG5); clear hG4; (try simp only [Act.put, List.setIfInBounds_toArray, List.set_cons_zero, List.set_cons_succ, List.getElem_toArray, List.getElem_cons_succ, List.getElem_cons_zero])
      refine wpAnyG_any (i := 5) (v := ?_) rfl hG5 (by kernel_rfl) (by kernel_rfl) (by kernel_rfl) rfl (fun _ _ _ h => h) (Or.inl ⟨by rfl, ?_⟩) ?_; rotate_left; (intro wS hSw; (try dsimp only at hSw); first | (go_simp; done) | (go_simp; with_reducible rfl) | (simp [go_sem, ↓IntWalk.iteOmega, *]; done) | (simp [go_sem, ↓IntWalk.iteOmega, *]; with_reducible rfl)); (intro hG6); clear hG5; (try simp only [Act.put, List.setIfInBounds_toArray, List.set_cons_zero, List.set_cons_succ, List.getElem_toArray, List.getElem_cons_succ, List.getElem_cons_zero])
      refine wpAnyG_any (i := 6) (v := ?_) rfl hG6 (by kernel_rfl) (by kernel_rfl) (by kernel_rfl) rfl (fun _ _ _ h => h) (Or.inl ⟨by rfl, ?_⟩) ?_; rotate_left; (intro wS hSw; (try dsimp only at hSw); first | (go_simp; done) | (go_simp; with_reducible rfl) | (simp [go_sem, ↓IntWalk.iteOmega, *]; done) | (simp [go_sem, ↓IntWalk.iteOmega, *]; with_reducible rfl)); (intro hG7); clear hG6; (try simp only [Act.put, List.setIfInBounds_toArray, List.set_cons_zero, List.set_cons_succ, List.getElem_toArray, List.getElem_cons_succ, List.getElem_cons_zero])
      refine wpAnyG_take (i := 7) (v := ?_) rfl hG7 (by kernel_rfl) (by kernel_rfl) (by kernel_rfl) rfl (by kernel_rfl) (fun _ _ _ h => h) (Or.inl ⟨by rfl, ?_⟩) ?_; rotate_left; (intro wS hSw; (try dsimp only at hSw); first | (go_simp; done) | (go_simp; with_reducible rfl) | (simp [go_sem, ↓IntWalk.iteOmega, *]; done) | (simp [go_sem, ↓IntWalk.iteOmega, *]; with_reducible rfl)); (intro hG8); clear hG7; (try simp only [Act.put, List.setIfInBounds_toArray, List.set_cons_zero, List.set_cons_succ, List.getElem_toArray, List.getElem_cons_succ, List.getElem_cons_zero])
      refine wpAnyG_any (i := 8) (v := ?_) rfl hG8 (by kernel_rfl) (by kernel_rfl) (by kernel_rfl) rfl (fun _ _ _ h => h) (Or.inl ⟨by rfl, ?_⟩) ?_; rotate_left; (intro wS hSw; (try dsimp only at hSw); first | (go_simp; done) | (go_simp; with_reducible rfl) | (simp [go_sem, ↓IntWalk.iteOmega, *]; done) | (simp [go_sem, ↓IntWalk.iteOmega, *]; with_reducible rfl)); (intro hG9); clear hG8; (try simp only [Act.put, List.setIfInBounds_toArray, List.set_cons_zero, List.set_cons_succ, List.getElem_toArray, List.getElem_cons_succ, List.getElem_cons_zero])
      refine wpAnyG_ready (rs := [9]) (by kernel_rfl) (by simp) (AllG.cons rfl hG9 (fun K hK => ?_) AllG.nil)
      (go_simp)
      refine hK.out _ _ (Or.inl rfl) (fun hG10 => ?_); clear hK hG9; (try simp only [Act.put, List.setIfInBounds_toArray, List.set_cons_zero, List.set_cons_succ, List.getElem_toArray, List.getElem_cons_succ, List.getElem_cons_zero])
      refine wpAnyG_done (by kernel_rfl) ?_ _; clear hG10
      have hput := Htx.out.drew.put (j := k) (u := x) (Nat.lt_succ_self k)
      simp only [↓reduceIte] at hput
      have Hput := Lib.hid (hput.congr (M' := stM s (k + 1)) fun j hj c => by rw [← Hxk.out]; exact stM_put j hj c)
      have hle : w.heap.size + 2 ≤ w6.heap.size := by omega
      clear hput
      go_wp2
      go_roundw
      case rel => exact ⟨k + 1, _, _, by omega, by go_num, Hput.out, ⟨by have := v6b.lt; simpa [World.setCell] using this, (World.cell?_setCell_other _ _ _ _ (by first | (simp; done) | (simp; omega))).trans v6b.c0, (World.cell?_setCell_other _ _ _ _ (by first | (simp; done) | (simp; omega))).trans v6b.c1, (World.cell?_setCell_other _ _ _ _ (by first | (simp; done) | (simp; omega))).trans v6b.c2, (World.cell?_setCell_other _ _ _ _ (by first | (simp; done) | (simp; omega))).trans v6b.c3⟩, (World.cell?_setCell_other _ _ _ _ (by first | (simp; done) | (simp; omega))).trans a6, (World.cell?_setCell_other _ _ _ _ (by first | (simp; done) | (simp; omega))).trans a7, Lib.hid (by show w.heap.size + 2 ≤ (World.setCell _ _ _).heap.size; simpa [World.setCell] using hle), (hb6w.drew).setCell (p := ⟨wr.heap.size, x, none⟩) (by show w.heap.size ≤ wr.heap.size; omega) _⟩
      case measure => simp [intOf]; omega
    · obtain rfl : k = t.vars.length := by omega
      obtain ⟨A, cA, g, hv7, hA, hmat0⟩ := htab.out.done (g0 := w.heap.size) (by omega) (fun j hj => by have := htab.out.low j hj; omega)
      subst hv7
      have hmat := hmat0.congr (M' := fun v x => x == (nth s v).toNat) fun j hj c _ => by unfold stM; simp [hj]
      have hrc : RcI t s (a1, a2) (fun v x => x == (nth s v).toNat) := rc_start
      obtain ⟨M0, hM0⟩ : ∃ M0 : Nat → Nat → Bool, M0 = fun v x => x == (nth s v).toNat := ⟨_, rfl⟩
      rw [← hM0] at hmat hrc
      obtain ⟨wa, rfl⟩ : ∃ wa : World, wa = wr := ⟨_, rfl⟩
      have Hrc := Lib.hid hrc
      have Hlow := Lib.hid (fun j hj => htab.out.low j hj)
      have HA := Lib.hid hA
      have ga : w.heap.size + 2 ≤ wa.heap.size := hsz2
      have hrlt := Lib.hid (fun j hj => (hmat0.row j hj).lt)
      clear htab hmat0 hM0 hrc hA hlt hk
      go_wp2
      go_loopg [10] (2 * cnt2 M0 (Ld t) t.vars.length + 1) (fun gg c wr => ∃ (M : Nat → Nat → Bool) (ch : Bool), gg = 2 * cnt2 M (Ld t) t.vars.length + (if ch then 1 else 0) ∧ c = .bool ch ∧ MatIs wr g t.vars.length rb (Ld t) M ∧ Hid (RcI t s (a1, a2) M) ∧ Hid (ch = false → ClK t (a1, a2) M t.ops.length 0) ∧ Kp (w.heap.size + 2) wa.heap.size wa wr)
      case atStart => exact ⟨M0, true, rfl, rfl, hmat, Hrc, Lib.hid (fun h => by cases h), Kp.refl _ _ _⟩
      case round =>
        clear hmat Hrc z0 y0 y1 y2 y3
        obtain ⟨M, ch, hgk, rfl, hmat, hrc, hcl, hkp⟩ := hrel
        have Hgk := Lib.hid hgk
        clear hgk
        have kz := hkp.size
        have hbx := hbox.low (hkp.below (B := w.heap.size + 2) (Nat.le_refl _) (by omega)) (by omega)
        obtain ⟨z0, y0, y1, y2, y3⟩ := id hbx
        dsimp only at y0 y1 y2 y3
        cases ch
        · have Hm := Lib.hid (hmat.congr (M' := rcB t s (a1, a2)) fun j hj c hc => rc_end hrc.out (clK_end (hcl.out rfl)) j hj c hc)
          have hbl : Below w.heap.size w wr := hbel.trans (hkp.below (B := w.heap.size) (by omega) (by omega))
          clear hmat hkp
          go_wp2
          go_ret
          exact ⟨⟨A, cA, g, rb, rfl, HA.out, Hm.out⟩, hbl⟩
        · obtain ⟨w5, rfl⟩ : ∃ w5 : World, w5 = wr := ⟨_, rfl⟩
          go_wp2
          go_loopw [10, 42] (fun c i wr => ∃ (k : Nat) (M' : Nat → Nat → Bool) (ch : Bool), k ≤ t.ops.length ∧ i = .int .i64 k ∧ c = .bool ch ∧ MatIs wr g t.vars.length rb (Ld t) M' ∧ Hid (RcI t s (a1, a2) M') ∧ Hid (ch = false → ClK t (a1, a2) M' k 0) ∧ Hid (cnt2 M' (Ld t) t.vars.length ≤ cnt2 M (Ld t) t.vars.length) ∧ Hid (ch = true → cnt2 M' (Ld t) t.vars.length < cnt2 M (Ld t) t.vars.length) ∧ Kp (w.heap.size + 2) wa.heap.size wa wr) (fun _ i _ => t.ops.length - (intOf i).toNat)
          case atStart => exact ⟨0, M, false, by omega, rfl, rfl, hmat, hrc, Lib.hid (fun _ => clK_zero), Lib.hid (Nat.le_refl _), Lib.hid (fun h => by cases h), hkp⟩
          case round =>
            clear hmat hrc hkp kz hcl z0 y0 y1 y2 y3 hbx
            obtain ⟨k, M1, ch, hk, rfl, rfl, hmat, hrc, hcl, hcn, hcs, hkp⟩ := hrel
            have kz := hkp.size
            have hbx := hbox.low (hkp.below (B := w.heap.size + 2) (Nat.le_refl _) (by omega)) (by omega)
            obtain ⟨z0, y0, y1, y2, y3⟩ := id hbx
            dsimp only at y0 y1 y2 y3
            obtain ⟨wb, rfl⟩ : ∃ wb : World, wb = wr := ⟨_, rfl⟩
            by_cases hlt : k < t.ops.length
            -- FILL
            · obtain ⟨b, o, S, cS, T, d, ea, hb, n0, n1, n2, n3, f2, n4, e3⟩ := ht.ops.at2 (hbel.trans (hkp.below (B := w.heap.size) (by omega) (by omega))) hlt
              dsimp only at ea
              subst ea
              have g2 : b < wb.heap.size := by omega
              have j1 := f2.len
              have j2 := e3.len
              have npr := HR.out.np k hlt
              have nef := HR.out.ne k hlt
              go_wp2
              go_loopw [10, 49] (fun c i wr => ∃ (j : Nat) (M2 : Nat → Nat → Bool) (ch : Bool), j ≤ (opr t.ops k).effs.length ∧ i = .int .i64 j ∧ c = .bool ch ∧ MatIs wr g t.vars.length rb (Ld t) M2 ∧ Hid (RcI t s (a1, a2) M2) ∧ Hid (ch = false → ClK t (a1, a2) M2 k j) ∧ Hid (cnt2 M2 (Ld t) t.vars.length ≤ cnt2 M (Ld t) t.vars.length) ∧ Hid (ch = true → cnt2 M2 (Ld t) t.vars.length < cnt2 M (Ld t) t.vars.length) ∧ Kp (w.heap.size + 2) wa.heap.size (wb.alloc (.cells #[.string (opr t.ops k).name, .int .i64 (opr t.ops k).cost, .slice S (opr t.ops k).pre.length cS, .slice T (opr t.ops k).effs.length d] 67)) wr) (fun _ i _ => (opr t.ops k).effs.length - (intOf i).toNat)
              case atStart => exact ⟨0, M1, ch, by omega, rfl, rfl, hmat.alloc _, hrc, hcl, hcn, hcs, Kp.refl _ _ _⟩
              case round =>
                clear hmat hrc hcl hcn hcs z0 y0 y1 y2 y3 hbx n0 n1 n2 n3 n4
                obtain ⟨j, M2, ch, hj, rfl, rfl, hmat, hrc, hcl, hcn, hcs, hkp1⟩ := hrel
                have kz1 := hkp1.size
                simp only [World.size_alloc] at kz1
                have hkpr : Kp (w.heap.size + 2) wa.heap.size wa wr := (hkp.alloc _).trans hkp1
                have hbelr : Below w.heap.size w wr := hbel.trans (hkpr.below (B := w.heap.size) (by omega) (by omega))
                have hbzr := hbelr.size
                have p2 : wr.cell? ⟨wb.heap.size, 2, none⟩ = some (.slice S (opr t.ops k).pre.length cS) := (hkp1.cell (by simp) (.inr kz)).trans (by simp)
                have p3 : wr.cell? ⟨wb.heap.size, 3, none⟩ = some (.slice T (opr t.ops k).effs.length d) := (hkp1.cell (by simp) (.inr kz)).trans (by simp)
                have gp : wb.heap.size < wr.heap.size := kz1
                by_cases hltj : j < (opr t.ops k).effs.length
                · obtain ⟨b', o', S', c', ea', hb', i0, f5, i1, i2⟩ := e3.at2 hbelr hltj
                  subst ea'
                  have g3 : b' < wr.heap.size := by omega
                  have j3 := f5.len
                  have nwh := HR.out.nw k hlt j hltj
                  have hu := HR.out.eff k hlt j hltj
                  have t0 := (hkpr.cell (p := ⟨w.heap.size + 1, 0, none⟩) (by show w.heap.size + 1 < _; omega) (.inl (Nat.lt_succ_self _))).trans ha0
                  have t1 := (hkpr.cell (p := ⟨w.heap.size + 1, 1, none⟩) (by show w.heap.size + 1 < _; omega) (.inl (Nat.lt_succ_self _))).trans ha1
                  have gw : w.heap.size + 1 < wr.heap.size := by omega
                  obtain ⟨uv, huv⟩ : ∃ x : Nat, (eff (opr t.ops k).effs j).var = (x : Int) := ⟨(eff (opr t.ops k).effs j).var.toNat, by have := hu.1; omega⟩
                  obtain ⟨ux, hux⟩ : ∃ x : Nat, (eff (opr t.ops k).effs j).val = (x : Int) := ⟨(eff (opr t.ops k).effs j).val.toNat, by have := hu.2.2.1; omega⟩
                  have hvn : uv < t.vars.length := by have := hu.2.1; omega
                  have hxl : ux < Ld t uv := by unfold Ld; have := hu.2.2.2; rw [huv, hux] at this; simp only [Int.toNat_natCast] at this; omega
                  have Hef := Lib.hid (show efF t k j = ((uv : Int), (ux : Int)) by unfold efF; rw [huv, hux])
                  rw [huv] at i1
                  rw [hux] at i2
                  obtain rfl := HA.out (by omega)
                  clear hu huv hux
                  have m1 := hmat.top uv hvn
                  have m2 := hmat.cell hvn hxl
                  have m3 := hmat.frozen ux hvn
                  have m4 := hmat.rlt hvn
                  have m5 := hmat.glt
                  have j0 : (0 : Int) ≤ (j : Int) := by omega
                  have j4 : (j : Int) < ((opr t.ops k).effs.length : Int) := by omega
                  have v0 : (0 : Int) ≤ (uv : Int) := by omega
                  have v1 : (uv : Int) < (t.vars.length : Int) := by omega
                  have x0 : (0 : Int) ≤ (ux : Int) := by omega
                  have x1 : (ux : Int) < (Ld t uv : Int) := by omega
                  have r0 : w.heap.size + 2 ≤ rb uv := Hlow.out uv hvn
                  have r1 : rb uv < wa.heap.size := hrlt.out uv hvn
                  have KP := Lib.hid (fun wx (hb : Below (wr.alloc (.cells #[.slice S' (eff (opr t.ops k).effs j).whn.length c', .int .i64 (uv : Int), .int .i64 (ux : Int)] 78)).heap.size (wr.alloc (.cells #[.slice S' (eff (opr t.ops k).effs j).whn.length c', .int .i64 (uv : Int), .int .i64 (ux : Int)] 78)) wx) => rall_any t (opr t.ops k).pre M2 (some ⟨g, 0, none⟩) S cA cS g rb wx (fun _ => rfl) ((hmat.alloc _).up hb) (((f2.up hbelr).up ((Below.refl _ _).alloc (Nat.le_refl _) _)).up hb) (rng_fa (HR.out.pre k hlt)))
                  have KW := Lib.hid (fun wx (hb : Below (wr.alloc (.cells #[.slice S' (eff (opr t.ops k).effs j).whn.length c', .int .i64 (uv : Int), .int .i64 (ux : Int)] 78)).heap.size (wr.alloc (.cells #[.slice S' (eff (opr t.ops k).effs j).whn.length c', .int .i64 (uv : Int), .int .i64 (ux : Int)] 78)) wx) => rall_any t (eff (opr t.ops k).effs j).whn M2 (some ⟨g, 0, none⟩) S' cA c' g rb wx (fun _ => rfl) ((hmat.alloc _).up hb) (((f5.up hbelr).up ((Below.refl _ _).alloc (Nat.le_refl _) _)).up hb) (rng_fa (HR.out.whn k hlt j hltj)))
                  have HM := Lib.hid hmat
                  have HK := Lib.hid hkp1
                  clear hmat hkp1
                  by_cases h1 : (uv : Int) = a1
                  · by_cases h2 : (ux : Int) = a2
                    · have Heq := Lib.hid (show efF t k j = (a1, a2) by rw [Hef.out, h1, h2])
                      rw [← h1] at t0
                      rw [← h2] at t1
                      clear h1 h2
                      have Hs := Lib.hid (show ch = false → ClK t (a1, a2) M2 k (j + 1) from fun hc => clK_step (hcl.out hc) (fun h => absurd Heq.out h))
                      go_wp2_with fail
                      refine wp_region_aft (by kernel_rfl) (by kernel_rfl) (by (try simp); exact rfl) ?_; intro haft; (repeat (go_big_quiet_step ((first | (go_at_call 47; with_reducible exact aft_of (KP.out _ (Aft.below _))) | (go_at_call 47; with_reducible exact aft_of (KW.out _ (Aft.below _))))))); refine wpQuiet_nil ?_; intro w7 hwx; have hb7 := aft_below hwx; clear hwx; obtain ⟨hc7, hf7, hz7, hlt7, hle7⟩ := cellsIf hb7 (by (try simp); exact rfl); (try have : w.heap.size < w7.heap.size := (by omega)); (try have : w.heap.size < w7.heap.size + 1 := (by omega)); (try have : w.heap.size < w7.heap.size + 1 + 1 := (by omega)); (try have : w.heap.size + 1 < w7.heap.size := (by omega)); (try have : w.heap.size + 1 < w7.heap.size + 1 := (by omega)); (try have : w.heap.size + 1 < w7.heap.size + 1 + 1 := (by omega)); (try have : w.heap.size + 1 + 1 < w7.heap.size := (by omega)); (try have : w.heap.size + 1 + 1 < w7.heap.size + 1 := (by omega)); (try have : w.heap.size + 1 + 1 < w7.heap.size + 1 + 1 := (by omega)); (try have : w1.heap.size < w7.heap.size := (by omega)); (try have : w1.heap.size < w7.heap.size + 1 := (by omega)); (try have : w1.heap.size < w7.heap.size + 1 + 1 := (by omega)); (try have : w1.heap.size + 1 < w7.heap.size := (by omega)); (try have : w1.heap.size + 1 < w7.heap.size + 1 := (by omega)); (try have : w1.heap.size + 1 < w7.heap.size + 1 + 1 := (by omega)); (try have : w1.heap.size + 1 + 1 < w7.heap.size := (by omega)); (try have : w1.heap.size + 1 + 1 < w7.heap.size + 1 := (by omega)); (try have : w1.heap.size + 1 + 1 < w7.heap.size + 1 + 1 := (by omega)); (try have : w2.heap.size < w7.heap.size := (by omega)); (try have : w2.heap.size < w7.heap.size + 1 := (by omega)); (try have : w2.heap.size < w7.heap.size + 1 + 1 := (by omega)); (try have : w2.heap.size + 1 < w7.heap.size := (by omega)); (try have : w2.heap.size + 1 < w7.heap.size + 1 := (by omega)); (try have : w2.heap.size + 1 < w7.heap.size + 1 + 1 := (by omega)); (try have : w2.heap.size + 1 + 1 < w7.heap.size := (by omega)); (try have : w2.heap.size + 1 + 1 < w7.heap.size + 1 := (by omega)); (try have : w2.heap.size + 1 + 1 < w7.heap.size + 1 + 1 := (by omega)); (try have : w3.heap.size < w7.heap.size := (by omega)); (try have : w3.heap.size < w7.heap.size + 1 := (by omega)); (try have : w3.heap.size < w7.heap.size + 1 + 1 := (by omega)); (try have : w3.heap.size + 1 < w7.heap.size := (by omega)); (try have : w3.heap.size + 1 < w7.heap.size + 1 := (by omega)); (try have : w3.heap.size + 1 < w7.heap.size + 1 + 1 := (by omega)); (try have : w3.heap.size + 1 + 1 < w7.heap.size := (by omega)); (try have : w3.heap.size + 1 + 1 < w7.heap.size + 1 := (by omega)); (try have : w3.heap.size + 1 + 1 < w7.heap.size + 1 + 1 := (by omega)); (try have : w4.heap.size < w7.heap.size := (by omega)); (try have : w4.heap.size < w7.heap.size + 1 := (by omega)); (try have : w4.heap.size < w7.heap.size + 1 + 1 := (by omega)); (try have : w4.heap.size + 1 < w7.heap.size := (by omega)); (try have : w4.heap.size + 1 < w7.heap.size + 1 := (by omega)); (try have : w4.heap.size + 1 < w7.heap.size + 1 + 1 := (by omega)); (try have : w4.heap.size + 1 + 1 < w7.heap.size := (by omega)); (try have : w4.heap.size + 1 + 1 < w7.heap.size + 1 := (by omega)); (try have : w4.heap.size + 1 + 1 < w7.heap.size + 1 + 1 := (by omega)); (try have : w5.heap.size < w7.heap.size := (by omega)); (try have : w5.heap.size < w7.heap.size + 1 := (by omega)); (try have : w5.heap.size < w7.heap.size + 1 + 1 := (by omega)); (try have : w5.heap.size + 1 < w7.heap.size := (by omega)); (try have : w5.heap.size + 1 < w7.heap.size + 1 := (by omega)); (try have : w5.heap.size + 1 < w7.heap.size + 1 + 1 := (by omega)); (try have : w5.heap.size + 1 + 1 < w7.heap.size := (by omega)); (try have : w5.heap.size + 1 + 1 < w7.heap.size + 1 := (by omega)); (try have : w5.heap.size + 1 + 1 < w7.heap.size + 1 + 1 := (by omega)); (try have : w6.heap.size < w7.heap.size := (by omega)); (try have : w6.heap.size < w7.heap.size + 1 := (by omega)); (try have : w6.heap.size < w7.heap.size + 1 + 1 := (by omega)); (try have : w6.heap.size + 1 < w7.heap.size := (by omega)); (try have : w6.heap.size + 1 < w7.heap.size + 1 := (by omega)); (try have : w6.heap.size + 1 < w7.heap.size + 1 + 1 := (by omega)); (try have : w6.heap.size + 1 + 1 < w7.heap.size := (by omega)); (try have : w6.heap.size + 1 + 1 < w7.heap.size + 1 := (by omega)); (try have : w6.heap.size + 1 + 1 < w7.heap.size + 1 + 1 := (by omega)); clear haft
                      go_wp2
                      go_roundw
                      case rel => exact ⟨j + 1, M2, ch, by omega, by go_num, rfl, (HM.out.alloc _).up hb7, hrc, Hs, hcn, hcs, (HK.out.alloc _).up hb7⟩
                      case measure => simp [intOf]; omega
                    have Hne := Lib.hid (show ((uv : Int), (ux : Int)) ≠ (a1, a2) from fun e => h2 (congrArg Prod.snd e))
                    rw [← h1] at t0
                    clear h1
                    have h3 : decide ((ux : Int) = a2) = false := by simpa using h2
                    have h4 : ¬ a2 = (ux : Int) := fun e => h2 e.symm
                    have h5 : ((ux : Int) == a2) = false := by simpa using h2
                    have h6 : ((ux : Int) != a2) = true := by simpa using h2
                    have hneq : ∀ w, (binOp .neq 3 (.int .i64 (ux : Int)) (.int .i64 a2)).run Try.prog w = .ok (.bool true) w := by intro w; simp [go_sem, h2]
                    cases e2 : M2 uv ux
                    case true =>
                      rw [e2] at m2
                      have Hs := Lib.hid (show ch = false → ClK t (a1, a2) M2 k (j + 1) from fun hc => clK_step (hcl.out hc) (fun _ _ _ => by rw [Hef.out]; simpa using e2))
                      go_wp2_with fail
                      refine wp_region_aft (by kernel_rfl) (by kernel_rfl) (by (try simp); exact rfl) ?_; intro haft; (repeat (go_big_quiet_step ((first | (go_at_call 47; with_reducible exact aft_of (KP.out _ (Aft.below _))) | (go_at_call 47; with_reducible exact aft_of (KW.out _ (Aft.below _))))))); refine wpQuiet_nil ?_; intro w7 hwx; have hb7 := aft_below hwx; clear hwx; obtain ⟨hc7, hf7, hz7, hlt7, hle7⟩ := cellsIf hb7 (by (try simp); exact rfl); (try have : w.heap.size < w7.heap.size := (by omega)); (try have : w.heap.size < w7.heap.size + 1 := (by omega)); (try have : w.heap.size < w7.heap.size + 1 + 1 := (by omega)); (try have : w.heap.size + 1 < w7.heap.size := (by omega)); (try have : w.heap.size + 1 < w7.heap.size + 1 := (by omega)); (try have : w.heap.size + 1 < w7.heap.size + 1 + 1 := (by omega)); (try have : w.heap.size + 1 + 1 < w7.heap.size := (by omega)); (try have : w.heap.size + 1 + 1 < w7.heap.size + 1 := (by omega)); (try have : w.heap.size + 1 + 1 < w7.heap.size + 1 + 1 := (by omega)); (try have : w1.heap.size < w7.heap.size := (by omega)); (try have : w1.heap.size < w7.heap.size + 1 := (by omega)); (try have : w1.heap.size < w7.heap.size + 1 + 1 := (by omega)); (try have : w1.heap.size + 1 < w7.heap.size := (by omega)); (try have : w1.heap.size + 1 < w7.heap.size + 1 := (by omega)); (try have : w1.heap.size + 1 < w7.heap.size + 1 + 1 := (by omega)); (try have : w1.heap.size + 1 + 1 < w7.heap.size := (by omega)); (try have : w1.heap.size + 1 + 1 < w7.heap.size + 1 := (by omega)); (try have : w1.heap.size + 1 + 1 < w7.heap.size + 1 + 1 := (by omega)); (try have : w2.heap.size < w7.heap.size := (by omega)); (try have : w2.heap.size < w7.heap.size + 1 := (by omega)); (try have : w2.heap.size < w7.heap.size + 1 + 1 := (by omega)); (try have : w2.heap.size + 1 < w7.heap.size := (by omega)); (try have : w2.heap.size + 1 < w7.heap.size + 1 := (by omega)); (try have : w2.heap.size + 1 < w7.heap.size + 1 + 1 := (by omega)); (try have : w2.heap.size + 1 + 1 < w7.heap.size := (by omega)); (try have : w2.heap.size + 1 + 1 < w7.heap.size + 1 := (by omega)); (try have : w2.heap.size + 1 + 1 < w7.heap.size + 1 + 1 := (by omega)); (try have : w3.heap.size < w7.heap.size := (by omega)); (try have : w3.heap.size < w7.heap.size + 1 := (by omega)); (try have : w3.heap.size < w7.heap.size + 1 + 1 := (by omega)); (try have : w3.heap.size + 1 < w7.heap.size := (by omega)); (try have : w3.heap.size + 1 < w7.heap.size + 1 := (by omega)); (try have : w3.heap.size + 1 < w7.heap.size + 1 + 1 := (by omega)); (try have : w3.heap.size + 1 + 1 < w7.heap.size := (by omega)); (try have : w3.heap.size + 1 + 1 < w7.heap.size + 1 := (by omega)); (try have : w3.heap.size + 1 + 1 < w7.heap.size + 1 + 1 := (by omega)); (try have : w4.heap.size < w7.heap.size := (by omega)); (try have : w4.heap.size < w7.heap.size + 1 := (by omega)); (try have : w4.heap.size < w7.heap.size + 1 + 1 := (by omega)); (try have : w4.heap.size + 1 < w7.heap.size := (by omega)); (try have : w4.heap.size + 1 < w7.heap.size + 1 := (by omega)); (try have : w4.heap.size + 1 < w7.heap.size + 1 + 1 := (by omega)); (try have : w4.heap.size + 1 + 1 < w7.heap.size := (by omega)); (try have : w4.heap.size + 1 + 1 < w7.heap.size + 1 := (by omega)); (try have : w4.heap.size + 1 + 1 < w7.heap.size + 1 + 1 := (by omega)); (try have : w5.heap.size < w7.heap.size := (by omega)); (try have : w5.heap.size < w7.heap.size + 1 := (by omega)); (try have : w5.heap.size < w7.heap.size + 1 + 1 := (by omega)); (try have : w5.heap.size + 1 < w7.heap.size := (by omega)); (try have : w5.heap.size + 1 < w7.heap.size + 1 := (by omega)); (try have : w5.heap.size + 1 < w7.heap.size + 1 + 1 := (by omega)); (try have : w5.heap.size + 1 + 1 < w7.heap.size := (by omega)); (try have : w5.heap.size + 1 + 1 < w7.heap.size + 1 := (by omega)); (try have : w5.heap.size + 1 + 1 < w7.heap.size + 1 + 1 := (by omega)); (try have : w6.heap.size < w7.heap.size := (by omega)); (try have : w6.heap.size < w7.heap.size + 1 := (by omega)); (try have : w6.heap.size < w7.heap.size + 1 + 1 := (by omega)); (try have : w6.heap.size + 1 < w7.heap.size := (by omega)); (try have : w6.heap.size + 1 < w7.heap.size + 1 := (by omega)); (try have : w6.heap.size + 1 < w7.heap.size + 1 + 1 := (by omega)); (try have : w6.heap.size + 1 + 1 < w7.heap.size := (by omega)); (try have : w6.heap.size + 1 + 1 < w7.heap.size + 1 := (by omega)); (try have : w6.heap.size + 1 + 1 < w7.heap.size + 1 + 1 := (by omega)); clear haft
                      go_wp2
                      go_roundw
                      case rel => exact ⟨j + 1, M2, ch, by omega, by go_num, rfl, (HM.out.alloc _).up hb7, hrc, Hs, hcn, hcs, (HK.out.alloc _).up hb7⟩
                      case measure => simp [intOf]; omega
                    rw [e2] at m2
                    cases e3 : hsM (opr t.ops k).pre M2
                    case false =>
                      rw [e3] at KP
                      have Hs := Lib.hid (show ch = false → ClK t (a1, a2) M2 k (j + 1) from fun hc => clK_step (hcl.out hc) (fun _ h _ => by rw [e3] at h; cases h))
                      go_wp2_with fail
                      refine wp_region_aft (by kernel_rfl) (by kernel_rfl) (by (try simp); exact rfl) ?_; intro haft; (repeat (go_big_quiet_step ((first | (go_at_call 47; with_reducible exact aft_of (KP.out _ (Aft.below _))) | (go_at_call 47; with_reducible exact aft_of (KW.out _ (Aft.below _))))))); refine wpQuiet_nil ?_; intro w7 hwx; have hb7 := aft_below hwx; clear hwx; obtain ⟨hc7, hf7, hz7, hlt7, hle7⟩ := cellsIf hb7 (by (try simp); exact rfl); (try have : w.heap.size < w7.heap.size := (by omega)); (try have : w.heap.size < w7.heap.size + 1 := (by omega)); (try have : w.heap.size < w7.heap.size + 1 + 1 := (by omega)); (try have : w.heap.size + 1 < w7.heap.size := (by omega)); (try have : w.heap.size + 1 < w7.heap.size + 1 := (by omega)); (try have : w.heap.size + 1 < w7.heap.size + 1 + 1 := (by omega)); (try have : w.heap.size + 1 + 1 < w7.heap.size := (by omega)); (try have : w.heap.size + 1 + 1 < w7.heap.size + 1 := (by omega)); (try have : w.heap.size + 1 + 1 < w7.heap.size + 1 + 1 := (by omega)); (try have : w1.heap.size < w7.heap.size := (by omega)); (try have : w1.heap.size < w7.heap.size + 1 := (by omega)); (try have : w1.heap.size < w7.heap.size + 1 + 1 := (by omega)); (try have : w1.heap.size + 1 < w7.heap.size := (by omega)); (try have : w1.heap.size + 1 < w7.heap.size + 1 := (by omega)); (try have : w1.heap.size + 1 < w7.heap.size + 1 + 1 := (by omega)); (try have : w1.heap.size + 1 + 1 < w7.heap.size := (by omega)); (try have : w1.heap.size + 1 + 1 < w7.heap.size + 1 := (by omega)); (try have : w1.heap.size + 1 + 1 < w7.heap.size + 1 + 1 := (by omega)); (try have : w2.heap.size < w7.heap.size := (by omega)); (try have : w2.heap.size < w7.heap.size + 1 := (by omega)); (try have : w2.heap.size < w7.heap.size + 1 + 1 := (by omega)); (try have : w2.heap.size + 1 < w7.heap.size := (by omega)); (try have : w2.heap.size + 1 < w7.heap.size + 1 := (by omega)); (try have : w2.heap.size + 1 < w7.heap.size + 1 + 1 := (by omega)); (try have : w2.heap.size + 1 + 1 < w7.heap.size := (by omega)); (try have : w2.heap.size + 1 + 1 < w7.heap.size + 1 := (by omega)); (try have : w2.heap.size + 1 + 1 < w7.heap.size + 1 + 1 := (by omega)); (try have : w3.heap.size < w7.heap.size := (by omega)); (try have : w3.heap.size < w7.heap.size + 1 := (by omega)); (try have : w3.heap.size < w7.heap.size + 1 + 1 := (by omega)); (try have : w3.heap.size + 1 < w7.heap.size := (by omega)); (try have : w3.heap.size + 1 < w7.heap.size + 1 := (by omega)); (try have : w3.heap.size + 1 < w7.heap.size + 1 + 1 := (by omega)); (try have : w3.heap.size + 1 + 1 < w7.heap.size := (by omega)); (try have : w3.heap.size + 1 + 1 < w7.heap.size + 1 := (by omega)); (try have : w3.heap.size + 1 + 1 < w7.heap.size + 1 + 1 := (by omega)); (try have : w4.heap.size < w7.heap.size := (by omega)); (try have : w4.heap.size < w7.heap.size + 1 := (by omega)); (try have : w4.heap.size < w7.heap.size + 1 + 1 := (by omega)); (try have : w4.heap.size + 1 < w7.heap.size := (by omega)); (try have : w4.heap.size + 1 < w7.heap.size + 1 := (by omega)); (try have : w4.heap.size + 1 < w7.heap.size + 1 + 1 := (by omega)); (try have : w4.heap.size + 1 + 1 < w7.heap.size := (by omega)); (try have : w4.heap.size + 1 + 1 < w7.heap.size + 1 := (by omega)); (try have : w4.heap.size + 1 + 1 < w7.heap.size + 1 + 1 := (by omega)); (try have : w5.heap.size < w7.heap.size := (by omega)); (try have : w5.heap.size < w7.heap.size + 1 := (by omega)); (try have : w5.heap.size < w7.heap.size + 1 + 1 := (by omega)); (try have : w5.heap.size + 1 < w7.heap.size := (by omega)); (try have : w5.heap.size + 1 < w7.heap.size + 1 := (by omega)); (try have : w5.heap.size + 1 < w7.heap.size + 1 + 1 := (by omega)); (try have : w5.heap.size + 1 + 1 < w7.heap.size := (by omega)); (try have : w5.heap.size + 1 + 1 < w7.heap.size + 1 := (by omega)); (try have : w5.heap.size + 1 + 1 < w7.heap.size + 1 + 1 := (by omega)); (try have : w6.heap.size < w7.heap.size := (by omega)); (try have : w6.heap.size < w7.heap.size + 1 := (by omega)); (try have : w6.heap.size < w7.heap.size + 1 + 1 := (by omega)); (try have : w6.heap.size + 1 < w7.heap.size := (by omega)); (try have : w6.heap.size + 1 < w7.heap.size + 1 := (by omega)); (try have : w6.heap.size + 1 < w7.heap.size + 1 + 1 := (by omega)); (try have : w6.heap.size + 1 + 1 < w7.heap.size := (by omega)); (try have : w6.heap.size + 1 + 1 < w7.heap.size + 1 := (by omega)); (try have : w6.heap.size + 1 + 1 < w7.heap.size + 1 + 1 := (by omega)); clear haft
                      go_wp2
                      go_roundw
                      case rel => exact ⟨j + 1, M2, ch, by omega, by go_num, rfl, (HM.out.alloc _).up hb7, hrc, Hs, hcn, hcs, (HK.out.alloc _).up hb7⟩
                      case measure => simp [intOf]; omega
                    cases e4 : hsM (eff (opr t.ops k).effs j).whn M2
                    case false =>
                      rw [e3] at KP
                      rw [e4] at KW
                      have Hs := Lib.hid (show ch = false → ClK t (a1, a2) M2 k (j + 1) from fun hc => clK_step (hcl.out hc) (fun _ _ h => by rw [e4] at h; cases h))
                      go_wp2_with fail
                      refine wp_region_aft (by kernel_rfl) (by kernel_rfl) (by (try simp); exact rfl) ?_; intro haft; (repeat (go_big_quiet_step ((first | (go_at_call 47; with_reducible exact aft_of (KP.out _ (Aft.below _))) | (go_at_call 47; with_reducible exact aft_of (KW.out _ (Aft.below _))))))); refine wpQuiet_nil ?_; intro w7 hwx; have hb7 := aft_below hwx; clear hwx; obtain ⟨hc7, hf7, hz7, hlt7, hle7⟩ := cellsIf hb7 (by (try simp); exact rfl); (try have : w.heap.size < w7.heap.size := (by omega)); (try have : w.heap.size < w7.heap.size + 1 := (by omega)); (try have : w.heap.size < w7.heap.size + 1 + 1 := (by omega)); (try have : w.heap.size + 1 < w7.heap.size := (by omega)); (try have : w.heap.size + 1 < w7.heap.size + 1 := (by omega)); (try have : w.heap.size + 1 < w7.heap.size + 1 + 1 := (by omega)); (try have : w.heap.size + 1 + 1 < w7.heap.size := (by omega)); (try have : w.heap.size + 1 + 1 < w7.heap.size + 1 := (by omega)); (try have : w.heap.size + 1 + 1 < w7.heap.size + 1 + 1 := (by omega)); (try have : w1.heap.size < w7.heap.size := (by omega)); (try have : w1.heap.size < w7.heap.size + 1 := (by omega)); (try have : w1.heap.size < w7.heap.size + 1 + 1 := (by omega)); (try have : w1.heap.size + 1 < w7.heap.size := (by omega)); (try have : w1.heap.size + 1 < w7.heap.size + 1 := (by omega)); (try have : w1.heap.size + 1 < w7.heap.size + 1 + 1 := (by omega)); (try have : w1.heap.size + 1 + 1 < w7.heap.size := (by omega)); (try have : w1.heap.size + 1 + 1 < w7.heap.size + 1 := (by omega)); (try have : w1.heap.size + 1 + 1 < w7.heap.size + 1 + 1 := (by omega)); (try have : w2.heap.size < w7.heap.size := (by omega)); (try have : w2.heap.size < w7.heap.size + 1 := (by omega)); (try have : w2.heap.size < w7.heap.size + 1 + 1 := (by omega)); (try have : w2.heap.size + 1 < w7.heap.size := (by omega)); (try have : w2.heap.size + 1 < w7.heap.size + 1 := (by omega)); (try have : w2.heap.size + 1 < w7.heap.size + 1 + 1 := (by omega)); (try have : w2.heap.size + 1 + 1 < w7.heap.size := (by omega)); (try have : w2.heap.size + 1 + 1 < w7.heap.size + 1 := (by omega)); (try have : w2.heap.size + 1 + 1 < w7.heap.size + 1 + 1 := (by omega)); (try have : w3.heap.size < w7.heap.size := (by omega)); (try have : w3.heap.size < w7.heap.size + 1 := (by omega)); (try have : w3.heap.size < w7.heap.size + 1 + 1 := (by omega)); (try have : w3.heap.size + 1 < w7.heap.size := (by omega)); (try have : w3.heap.size + 1 < w7.heap.size + 1 := (by omega)); (try have : w3.heap.size + 1 < w7.heap.size + 1 + 1 := (by omega)); (try have : w3.heap.size + 1 + 1 < w7.heap.size := (by omega)); (try have : w3.heap.size + 1 + 1 < w7.heap.size + 1 := (by omega)); (try have : w3.heap.size + 1 + 1 < w7.heap.size + 1 + 1 := (by omega)); (try have : w4.heap.size < w7.heap.size := (by omega)); (try have : w4.heap.size < w7.heap.size + 1 := (by omega)); (try have : w4.heap.size < w7.heap.size + 1 + 1 := (by omega)); (try have : w4.heap.size + 1 < w7.heap.size := (by omega)); (try have : w4.heap.size + 1 < w7.heap.size + 1 := (by omega)); (try have : w4.heap.size + 1 < w7.heap.size + 1 + 1 := (by omega)); (try have : w4.heap.size + 1 + 1 < w7.heap.size := (by omega)); (try have : w4.heap.size + 1 + 1 < w7.heap.size + 1 := (by omega)); (try have : w4.heap.size + 1 + 1 < w7.heap.size + 1 + 1 := (by omega)); (try have : w5.heap.size < w7.heap.size := (by omega)); (try have : w5.heap.size < w7.heap.size + 1 := (by omega)); (try have : w5.heap.size < w7.heap.size + 1 + 1 := (by omega)); (try have : w5.heap.size + 1 < w7.heap.size := (by omega)); (try have : w5.heap.size + 1 < w7.heap.size + 1 := (by omega)); (try have : w5.heap.size + 1 < w7.heap.size + 1 + 1 := (by omega)); (try have : w5.heap.size + 1 + 1 < w7.heap.size := (by omega)); (try have : w5.heap.size + 1 + 1 < w7.heap.size + 1 := (by omega)); (try have : w5.heap.size + 1 + 1 < w7.heap.size + 1 + 1 := (by omega)); (try have : w6.heap.size < w7.heap.size := (by omega)); (try have : w6.heap.size < w7.heap.size + 1 := (by omega)); (try have : w6.heap.size < w7.heap.size + 1 + 1 := (by omega)); (try have : w6.heap.size + 1 < w7.heap.size := (by omega)); (try have : w6.heap.size + 1 < w7.heap.size + 1 := (by omega)); (try have : w6.heap.size + 1 < w7.heap.size + 1 + 1 := (by omega)); (try have : w6.heap.size + 1 + 1 < w7.heap.size := (by omega)); (try have : w6.heap.size + 1 + 1 < w7.heap.size + 1 := (by omega)); (try have : w6.heap.size + 1 + 1 < w7.heap.size + 1 + 1 := (by omega)); clear haft
                      go_wp2
                      go_roundw
                      case rel => exact ⟨j + 1, M2, ch, by omega, by go_num, rfl, (HM.out.alloc _).up hb7, hrc, Hs, hcn, hcs, (HK.out.alloc _).up hb7⟩
                      case measure => simp [intOf]; omega
                    rw [e3] at KP
                    rw [e4] at KW
                    have hmk := rc_mark HR.out hrc.out hlt hltj (by rw [Hef.out]; exact Hne.out) e3 e4
                    rw [Hef.out] at hmk
                    have Hmk := Lib.hid (show RcI t s (a1, a2) (put2 M2 uv ux) by simpa using hmk)
                    have Hcc := Lib.hid (cnt2_put (n := t.vars.length) e2 hxl hvn)
                    clear hmk
                    go_wp2_with fail
                    refine wp_region_aft (by kernel_rfl) (by kernel_rfl) (by (try simp); exact rfl) ?_; intro haft; (repeat (go_big_quiet_step ((first | (go_at_call 47; with_reducible exact aft_of (KP.out _ (Aft.below _))) | (go_at_call 47; with_reducible exact aft_of (KW.out _ (Aft.below _))))))); refine wpQuiet_nil ?_; intro w7 hwx; have hb7 := aft_below hwx; clear hwx; obtain ⟨hc7, hf7, hz7, hlt7, hle7⟩ := cellsIf hb7 (by (try simp); exact rfl); (try have : w.heap.size < w7.heap.size := (by omega)); (try have : w.heap.size < w7.heap.size + 1 := (by omega)); (try have : w.heap.size < w7.heap.size + 1 + 1 := (by omega)); (try have : w.heap.size + 1 < w7.heap.size := (by omega)); (try have : w.heap.size + 1 < w7.heap.size + 1 := (by omega)); (try have : w.heap.size + 1 < w7.heap.size + 1 + 1 := (by omega)); (try have : w.heap.size + 1 + 1 < w7.heap.size := (by omega)); (try have : w.heap.size + 1 + 1 < w7.heap.size + 1 := (by omega)); (try have : w.heap.size + 1 + 1 < w7.heap.size + 1 + 1 := (by omega)); (try have : w1.heap.size < w7.heap.size := (by omega)); (try have : w1.heap.size < w7.heap.size + 1 := (by omega)); (try have : w1.heap.size < w7.heap.size + 1 + 1 := (by omega)); (try have : w1.heap.size + 1 < w7.heap.size := (by omega)); (try have : w1.heap.size + 1 < w7.heap.size + 1 := (by omega)); (try have : w1.heap.size + 1 < w7.heap.size + 1 + 1 := (by omega)); (try have : w1.heap.size + 1 + 1 < w7.heap.size := (by omega)); (try have : w1.heap.size + 1 + 1 < w7.heap.size + 1 := (by omega)); (try have : w1.heap.size + 1 + 1 < w7.heap.size + 1 + 1 := (by omega)); (try have : w2.heap.size < w7.heap.size := (by omega)); (try have : w2.heap.size < w7.heap.size + 1 := (by omega)); (try have : w2.heap.size < w7.heap.size + 1 + 1 := (by omega)); (try have : w2.heap.size + 1 < w7.heap.size := (by omega)); (try have : w2.heap.size + 1 < w7.heap.size + 1 := (by omega)); (try have : w2.heap.size + 1 < w7.heap.size + 1 + 1 := (by omega)); (try have : w2.heap.size + 1 + 1 < w7.heap.size := (by omega)); (try have : w2.heap.size + 1 + 1 < w7.heap.size + 1 := (by omega)); (try have : w2.heap.size + 1 + 1 < w7.heap.size + 1 + 1 := (by omega)); (try have : w3.heap.size < w7.heap.size := (by omega)); (try have : w3.heap.size < w7.heap.size + 1 := (by omega)); (try have : w3.heap.size < w7.heap.size + 1 + 1 := (by omega)); (try have : w3.heap.size + 1 < w7.heap.size := (by omega)); (try have : w3.heap.size + 1 < w7.heap.size + 1 := (by omega)); (try have : w3.heap.size + 1 < w7.heap.size + 1 + 1 := (by omega)); (try have : w3.heap.size + 1 + 1 < w7.heap.size := (by omega)); (try have : w3.heap.size + 1 + 1 < w7.heap.size + 1 := (by omega)); (try have : w3.heap.size + 1 + 1 < w7.heap.size + 1 + 1 := (by omega)); (try have : w4.heap.size < w7.heap.size := (by omega)); (try have : w4.heap.size < w7.heap.size + 1 := (by omega)); (try have : w4.heap.size < w7.heap.size + 1 + 1 := (by omega)); (try have : w4.heap.size + 1 < w7.heap.size := (by omega)); (try have : w4.heap.size + 1 < w7.heap.size + 1 := (by omega)); (try have : w4.heap.size + 1 < w7.heap.size + 1 + 1 := (by omega)); (try have : w4.heap.size + 1 + 1 < w7.heap.size := (by omega)); (try have : w4.heap.size + 1 + 1 < w7.heap.size + 1 := (by omega)); (try have : w4.heap.size + 1 + 1 < w7.heap.size + 1 + 1 := (by omega)); (try have : w5.heap.size < w7.heap.size := (by omega)); (try have : w5.heap.size < w7.heap.size + 1 := (by omega)); (try have : w5.heap.size < w7.heap.size + 1 + 1 := (by omega)); (try have : w5.heap.size + 1 < w7.heap.size := (by omega)); (try have : w5.heap.size + 1 < w7.heap.size + 1 := (by omega)); (try have : w5.heap.size + 1 < w7.heap.size + 1 + 1 := (by omega)); (try have : w5.heap.size + 1 + 1 < w7.heap.size := (by omega)); (try have : w5.heap.size + 1 + 1 < w7.heap.size + 1 := (by omega)); (try have : w5.heap.size + 1 + 1 < w7.heap.size + 1 + 1 := (by omega)); (try have : w6.heap.size < w7.heap.size := (by omega)); (try have : w6.heap.size < w7.heap.size + 1 := (by omega)); (try have : w6.heap.size < w7.heap.size + 1 + 1 := (by omega)); (try have : w6.heap.size + 1 < w7.heap.size := (by omega)); (try have : w6.heap.size + 1 < w7.heap.size + 1 := (by omega)); (try have : w6.heap.size + 1 < w7.heap.size + 1 + 1 := (by omega)); (try have : w6.heap.size + 1 + 1 < w7.heap.size := (by omega)); (try have : w6.heap.size + 1 + 1 < w7.heap.size + 1 := (by omega)); (try have : w6.heap.size + 1 + 1 < w7.heap.size + 1 + 1 := (by omega)); clear haft
                    have M7 := (HM.out.alloc (.cells #[.slice S' (eff (opr t.ops k).effs j).whn.length c', .int .i64 (uv : Int), .int .i64 (ux : Int)] 78)).up hb7
                    have s1 := M7.top uv hvn
                    have s2 := M7.cell hvn hxl
                    have s3 := M7.frozen ux hvn
                    have s4 := M7.rlt hvn
                    have s5 := M7.glt
                    have z7 := hb7.size
                    simp only [World.size_alloc] at z7
                    have s6 : w7.cell? ⟨wr.heap.size, 1, none⟩ = some (.int .i64 (uv : Int)) := (hb7.cell (p := ⟨wr.heap.size, 1, none⟩) (by simp)).trans (by simp)
                    have s7 : w7.cell? ⟨wr.heap.size, 2, none⟩ = some (.int .i64 (ux : Int)) := (hb7.cell (p := ⟨wr.heap.size, 2, none⟩) (by simp)).trans (by simp)
                    have s8 : wr.heap.size < w7.heap.size := z7
                    have Hlt := Lib.hid (show cnt2 (put2 M2 uv ux) (Ld t) t.vars.length < cnt2 M (Ld t) t.vars.length by have := Hcc.out; have := hcn.out; omega)
                    go_wp2_with fail
                    refine wp_region_G 8 (fun w' => w'.cell? ⟨wr.heap.size, 1, none⟩ = some (.int .i64 (uv : Int)) ∧ w'.cell? ⟨wr.heap.size, 2, none⟩ = some (.int .i64 (ux : Int)) ∧ w'.cell? ⟨g, uv, none⟩ = some (.slice (some ⟨rb uv, 0, none⟩) (Ld t uv) (Ld t uv))) (by kernel_rfl) (⟨s6, s7, s1⟩) ?_
                    intro hG0
                    refine wpAnyG_any (i := 0) (v := ?_) rfl hG0 (by kernel_rfl) (by kernel_rfl) (by kernel_rfl) rfl (fun _ _ _ h => h) (Or.inl ⟨by rfl, ?_⟩) ?_; rotate_left; (intro wS hSw; (try dsimp only at hSw); first | (go_simp; done) | (go_simp; with_reducible rfl) | (simp [go_sem, ↓IntWalk.iteOmega, *]; done) | (simp [go_sem, ↓IntWalk.iteOmega, *]; with_reducible rfl)); (intro hG1); clear hG0; (try simp only [Act.put, List.setIfInBounds_toArray, List.set_cons_zero, List.set_cons_succ, List.getElem_toArray, List.getElem_cons_succ, List.getElem_cons_zero])
                    refine wpAnyG_any (i := 1) (v := ?_) rfl hG1 (by kernel_rfl) (by kernel_rfl) (by kernel_rfl) rfl (fun _ _ _ h => h) (Or.inl ⟨by rfl, ?_⟩) ?_; rotate_left; (intro wS hSw; (try dsimp only at hSw); first | (go_simp; done) | (go_simp; with_reducible rfl) | (simp [go_sem, ↓IntWalk.iteOmega, *]; done) | (simp [go_sem, ↓IntWalk.iteOmega, *]; with_reducible rfl)); (intro hG2); clear hG1; (try simp only [Act.put, List.setIfInBounds_toArray, List.set_cons_zero, List.set_cons_succ, List.getElem_toArray, List.getElem_cons_succ, List.getElem_cons_zero])
                    refine wpAnyG_take (i := 2) (v := ?_) rfl hG2 (by kernel_rfl) (by kernel_rfl) (by kernel_rfl) rfl (by kernel_rfl) (fun _ _ _ h => h) (Or.inl ⟨by rfl, ?_⟩) ?_; rotate_left; (intro wS hSw; (try dsimp only at hSw); first | (go_simp; done) | (go_simp; with_reducible rfl) | (simp [go_sem, ↓IntWalk.iteOmega, *]; done) | (simp [go_sem, ↓IntWalk.iteOmega, *]; with_reducible rfl)); (intro hG3); clear hG2; (try simp only [Act.put, List.setIfInBounds_toArray, List.set_cons_zero, List.set_cons_succ, List.getElem_toArray, List.getElem_cons_succ, List.getElem_cons_zero])
                    refine wpAnyG_any (i := 3) (v := ?_) rfl hG3 (by kernel_rfl) (by kernel_rfl) (by kernel_rfl) rfl (fun _ _ _ h => h) (Or.inl ⟨by rfl, ?_⟩) ?_; rotate_left; (intro wS hSw; (try dsimp only at hSw); first | (go_simp; done) | (go_simp; with_reducible rfl) | (simp [go_sem, ↓IntWalk.iteOmega, *]; done) | (simp [go_sem, ↓IntWalk.iteOmega, *]; with_reducible rfl)); (intro hG4); clear hG3; (try simp only [Act.put, List.setIfInBounds_toArray, List.set_cons_zero, List.set_cons_succ, List.getElem_toArray, List.getElem_cons_succ, List.getElem_cons_zero])
                    refine wpAnyG_take (i := 4) (v := ?_) rfl hG4 (by kernel_rfl) (by kernel_rfl) (by kernel_rfl) rfl (by kernel_rfl) (fun _ _ _ h => h) (Or.inl ⟨by rfl, ?_⟩) ?_; rotate_left; (intro wS hSw; (try dsimp only at hSw); first | (go_simp; done) | (go_simp; with_reducible rfl) | (simp [go_sem, ↓IntWalk.iteOmega, *]; done) | (simp [go_sem, ↓IntWalk.iteOmega, *]; with_reducible rfl)); (intro hG5); clear hG4; (try simp only [Act.put, List.setIfInBounds_toArray, List.set_cons_zero, List.set_cons_succ, List.getElem_toArray, List.getElem_cons_succ, List.getElem_cons_zero])
                    refine wpAnyG_any (i := 5) (v := ?_) rfl hG5 (by kernel_rfl) (by kernel_rfl) (by kernel_rfl) rfl (fun _ _ _ h => h) (Or.inl ⟨by rfl, ?_⟩) ?_; rotate_left; (intro wS hSw; (try dsimp only at hSw); first | (go_simp; done) | (go_simp; with_reducible rfl) | (simp [go_sem, ↓IntWalk.iteOmega, *]; done) | (simp [go_sem, ↓IntWalk.iteOmega, *]; with_reducible rfl)); (intro hG6); clear hG5; (try simp only [Act.put, List.setIfInBounds_toArray, List.set_cons_zero, List.set_cons_succ, List.getElem_toArray, List.getElem_cons_succ, List.getElem_cons_zero])
                    refine wpAnyG_take (i := 6) (v := ?_) rfl hG6 (by kernel_rfl) (by kernel_rfl) (by kernel_rfl) rfl (by kernel_rfl) (fun _ _ _ h => h) (Or.inl ⟨by rfl, ?_⟩) ?_; rotate_left; (intro wS hSw; (try dsimp only at hSw); first | (go_simp; done) | (go_simp; with_reducible rfl) | (simp [go_sem, ↓IntWalk.iteOmega, *]; done) | (simp [go_sem, ↓IntWalk.iteOmega, *]; with_reducible rfl)); (intro hG7); clear hG6; (try simp only [Act.put, List.setIfInBounds_toArray, List.set_cons_zero, List.set_cons_succ, List.getElem_toArray, List.getElem_cons_succ, List.getElem_cons_zero])
                    refine wpAnyG_any (i := 7) (v := ?_) rfl hG7 (by kernel_rfl) (by kernel_rfl) (by kernel_rfl) rfl (fun _ _ _ h => h) (Or.inl ⟨by rfl, ?_⟩) ?_; rotate_left; (intro wS hSw; (try dsimp only at hSw); first | (go_simp; done) | (go_simp; with_reducible rfl) | (simp [go_sem, ↓IntWalk.iteOmega, *]; done) | (simp [go_sem, ↓IntWalk.iteOmega, *]; with_reducible rfl)); (intro hG8); clear hG7; (try simp only [Act.put, List.setIfInBounds_toArray, List.set_cons_zero, List.set_cons_succ, List.getElem_toArray, List.getElem_cons_succ, List.getElem_cons_zero])
                    refine wpAnyG_ready (rs := [8]) (by kernel_rfl) (by simp) (AllG.cons rfl hG8 (fun K hK => ?_) AllG.nil)
                    (go_simp)
                    refine hK.out _ _ (Or.inl rfl) (fun hG9 => ?_); clear hK hG8; (try simp only [Act.put, List.setIfInBounds_toArray, List.set_cons_zero, List.set_cons_succ, List.getElem_toArray, List.getElem_cons_succ, List.getElem_cons_zero])
                    refine wpAnyG_any (i := 9) (v := ?_) rfl hG9 (by kernel_rfl) (by kernel_rfl) (by kernel_rfl) rfl (fun _ _ _ h => h) (Or.inl ⟨by rfl, ?_⟩) ?_; rotate_left; (intro wS hSw; (try dsimp only at hSw); first | (go_simp; done) | (go_simp; with_reducible rfl) | (simp [go_sem, ↓IntWalk.iteOmega, *]; done) | (simp [go_sem, ↓IntWalk.iteOmega, *]; with_reducible rfl)); (intro hG10); clear hG9; (try simp only [Act.put, List.setIfInBounds_toArray, List.set_cons_zero, List.set_cons_succ, List.getElem_toArray, List.getElem_cons_succ, List.getElem_cons_zero])
                    refine wpAnyG_done (by kernel_rfl) ?_ _; clear hG10
                    go_wp2
                    go_roundw
                    case rel => exact ⟨j + 1, put2 M2 uv ux, true, by omega, by go_num, rfl, MatIs.put_true (M7.drew) hvn (fun _ _ _ _ => rfl), Hmk, Lib.hid (fun h => by cases h), Lib.hid (by have := Hlt.out; omega), Lib.hid (fun _ => Hlt.out), (((HK.out.alloc _).up hb7).drew).set (p := ⟨rb uv, ux, none⟩) r0 r1 _⟩
                    case measure => simp [intOf]; omega
                  · have Hne := Lib.hid (show ((uv : Int), (ux : Int)) ≠ (a1, a2) from fun e => h1 (congrArg Prod.fst e))
                    have h3 : decide ((uv : Int) = a1) = false := by simpa using h1
                    have h4 : ¬ a1 = (uv : Int) := fun e => h1 e.symm
                    have h5 : ((uv : Int) == a1) = false := by simpa using h1
                    have h6 : ((uv : Int) != a1) = true := by simpa using h1
                    have hneq : ∀ w, (binOp .neq 3 (.int .i64 (uv : Int)) (.int .i64 a1)).run Try.prog w = .ok (.bool true) w := by intro w; simp [go_sem, h1]
                    cases e2 : M2 uv ux
                    case true =>
                      rw [e2] at m2
                      have Hs := Lib.hid (show ch = false → ClK t (a1, a2) M2 k (j + 1) from fun hc => clK_step (hcl.out hc) (fun _ _ _ => by rw [Hef.out]; simpa using e2))
                      go_wp2_with fail
                      refine wp_region_aft (by kernel_rfl) (by kernel_rfl) (by (try simp); exact rfl) ?_; intro haft; (repeat (go_big_quiet_step ((first | (go_at_call 47; with_reducible exact aft_of (KP.out _ (Aft.below _))) | (go_at_call 47; with_reducible exact aft_of (KW.out _ (Aft.below _))))))); refine wpQuiet_nil ?_; intro w7 hwx; have hb7 := aft_below hwx; clear hwx; obtain ⟨hc7, hf7, hz7, hlt7, hle7⟩ := cellsIf hb7 (by (try simp); exact rfl); (try have : w.heap.size < w7.heap.size := (by omega)); (try have : w.heap.size < w7.heap.size + 1 := (by omega)); (try have : w.heap.size < w7.heap.size + 1 + 1 := (by omega)); (try have : w.heap.size + 1 < w7.heap.size := (by omega)); (try have : w.heap.size + 1 < w7.heap.size + 1 := (by omega)); (try have : w.heap.size + 1 < w7.heap.size + 1 + 1 := (by omega)); (try have : w.heap.size + 1 + 1 < w7.heap.size := (by omega)); (try have : w.heap.size + 1 + 1 < w7.heap.size + 1 := (by omega)); (try have : w.heap.size + 1 + 1 < w7.heap.size + 1 + 1 := (by omega)); (try have : w1.heap.size < w7.heap.size := (by omega)); (try have : w1.heap.size < w7.heap.size + 1 := (by omega)); (try have : w1.heap.size < w7.heap.size + 1 + 1 := (by omega)); (try have : w1.heap.size + 1 < w7.heap.size := (by omega)); (try have : w1.heap.size + 1 < w7.heap.size + 1 := (by omega)); (try have : w1.heap.size + 1 < w7.heap.size + 1 + 1 := (by omega)); (try have : w1.heap.size + 1 + 1 < w7.heap.size := (by omega)); (try have : w1.heap.size + 1 + 1 < w7.heap.size + 1 := (by omega)); (try have : w1.heap.size + 1 + 1 < w7.heap.size + 1 + 1 := (by omega)); (try have : w2.heap.size < w7.heap.size := (by omega)); (try have : w2.heap.size < w7.heap.size + 1 := (by omega)); (try have : w2.heap.size < w7.heap.size + 1 + 1 := (by omega)); (try have : w2.heap.size + 1 < w7.heap.size := (by omega)); (try have : w2.heap.size + 1 < w7.heap.size + 1 := (by omega)); (try have : w2.heap.size + 1 < w7.heap.size + 1 + 1 := (by omega)); (try have : w2.heap.size + 1 + 1 < w7.heap.size := (by omega)); (try have : w2.heap.size + 1 + 1 < w7.heap.size + 1 := (by omega)); (try have : w2.heap.size + 1 + 1 < w7.heap.size + 1 + 1 := (by omega)); (try have : w3.heap.size < w7.heap.size := (by omega)); (try have : w3.heap.size < w7.heap.size + 1 := (by omega)); (try have : w3.heap.size < w7.heap.size + 1 + 1 := (by omega)); (try have : w3.heap.size + 1 < w7.heap.size := (by omega)); (try have : w3.heap.size + 1 < w7.heap.size + 1 := (by omega)); (try have : w3.heap.size + 1 < w7.heap.size + 1 + 1 := (by omega)); (try have : w3.heap.size + 1 + 1 < w7.heap.size := (by omega)); (try have : w3.heap.size + 1 + 1 < w7.heap.size + 1 := (by omega)); (try have : w3.heap.size + 1 + 1 < w7.heap.size + 1 + 1 := (by omega)); (try have : w4.heap.size < w7.heap.size := (by omega)); (try have : w4.heap.size < w7.heap.size + 1 := (by omega)); (try have : w4.heap.size < w7.heap.size + 1 + 1 := (by omega)); (try have : w4.heap.size + 1 < w7.heap.size := (by omega)); (try have : w4.heap.size + 1 < w7.heap.size + 1 := (by omega)); (try have : w4.heap.size + 1 < w7.heap.size + 1 + 1 := (by omega)); (try have : w4.heap.size + 1 + 1 < w7.heap.size := (by omega)); (try have : w4.heap.size + 1 + 1 < w7.heap.size + 1 := (by omega)); (try have : w4.heap.size + 1 + 1 < w7.heap.size + 1 + 1 := (by omega)); (try have : w5.heap.size < w7.heap.size := (by omega)); (try have : w5.heap.size < w7.heap.size + 1 := (by omega)); (try have : w5.heap.size < w7.heap.size + 1 + 1 := (by omega)); (try have : w5.heap.size + 1 < w7.heap.size := (by omega)); (try have : w5.heap.size + 1 < w7.heap.size + 1 := (by omega)); (try have : w5.heap.size + 1 < w7.heap.size + 1 + 1 := (by omega)); (try have : w5.heap.size + 1 + 1 < w7.heap.size := (by omega)); (try have : w5.heap.size + 1 + 1 < w7.heap.size + 1 := (by omega)); (try have : w5.heap.size + 1 + 1 < w7.heap.size + 1 + 1 := (by omega)); (try have : w6.heap.size < w7.heap.size := (by omega)); (try have : w6.heap.size < w7.heap.size + 1 := (by omega)); (try have : w6.heap.size < w7.heap.size + 1 + 1 := (by omega)); (try have : w6.heap.size + 1 < w7.heap.size := (by omega)); (try have : w6.heap.size + 1 < w7.heap.size + 1 := (by omega)); (try have : w6.heap.size + 1 < w7.heap.size + 1 + 1 := (by omega)); (try have : w6.heap.size + 1 + 1 < w7.heap.size := (by omega)); (try have : w6.heap.size + 1 + 1 < w7.heap.size + 1 := (by omega)); (try have : w6.heap.size + 1 + 1 < w7.heap.size + 1 + 1 := (by omega)); clear haft
                      go_wp2
                      go_roundw
                      case rel => exact ⟨j + 1, M2, ch, by omega, by go_num, rfl, (HM.out.alloc _).up hb7, hrc, Hs, hcn, hcs, (HK.out.alloc _).up hb7⟩
                      case measure => simp [intOf]; omega
                    rw [e2] at m2
                    cases e3 : hsM (opr t.ops k).pre M2
                    case false =>
                      rw [e3] at KP
                      have Hs := Lib.hid (show ch = false → ClK t (a1, a2) M2 k (j + 1) from fun hc => clK_step (hcl.out hc) (fun _ h _ => by rw [e3] at h; cases h))
                      go_wp2_with fail
                      refine wp_region_aft (by kernel_rfl) (by kernel_rfl) (by (try simp); exact rfl) ?_; intro haft; (repeat (go_big_quiet_step ((first | (go_at_call 47; with_reducible exact aft_of (KP.out _ (Aft.below _))) | (go_at_call 47; with_reducible exact aft_of (KW.out _ (Aft.below _))))))); refine wpQuiet_nil ?_; intro w7 hwx; have hb7 := aft_below hwx; clear hwx; obtain ⟨hc7, hf7, hz7, hlt7, hle7⟩ := cellsIf hb7 (by (try simp); exact rfl); (try have : w.heap.size < w7.heap.size := (by omega)); (try have : w.heap.size < w7.heap.size + 1 := (by omega)); (try have : w.heap.size < w7.heap.size + 1 + 1 := (by omega)); (try have : w.heap.size + 1 < w7.heap.size := (by omega)); (try have : w.heap.size + 1 < w7.heap.size + 1 := (by omega)); (try have : w.heap.size + 1 < w7.heap.size + 1 + 1 := (by omega)); (try have : w.heap.size + 1 + 1 < w7.heap.size := (by omega)); (try have : w.heap.size + 1 + 1 < w7.heap.size + 1 := (by omega)); (try have : w.heap.size + 1 + 1 < w7.heap.size + 1 + 1 := (by omega)); (try have : w1.heap.size < w7.heap.size := (by omega)); (try have : w1.heap.size < w7.heap.size + 1 := (by omega)); (try have : w1.heap.size < w7.heap.size + 1 + 1 := (by omega)); (try have : w1.heap.size + 1 < w7.heap.size := (by omega)); (try have : w1.heap.size + 1 < w7.heap.size + 1 := (by omega)); (try have : w1.heap.size + 1 < w7.heap.size + 1 + 1 := (by omega)); (try have : w1.heap.size + 1 + 1 < w7.heap.size := (by omega)); (try have : w1.heap.size + 1 + 1 < w7.heap.size + 1 := (by omega)); (try have : w1.heap.size + 1 + 1 < w7.heap.size + 1 + 1 := (by omega)); (try have : w2.heap.size < w7.heap.size := (by omega)); (try have : w2.heap.size < w7.heap.size + 1 := (by omega)); (try have : w2.heap.size < w7.heap.size + 1 + 1 := (by omega)); (try have : w2.heap.size + 1 < w7.heap.size := (by omega)); (try have : w2.heap.size + 1 < w7.heap.size + 1 := (by omega)); (try have : w2.heap.size + 1 < w7.heap.size + 1 + 1 := (by omega)); (try have : w2.heap.size + 1 + 1 < w7.heap.size := (by omega)); (try have : w2.heap.size + 1 + 1 < w7.heap.size + 1 := (by omega)); (try have : w2.heap.size + 1 + 1 < w7.heap.size + 1 + 1 := (by omega)); (try have : w3.heap.size < w7.heap.size := (by omega)); (try have : w3.heap.size < w7.heap.size + 1 := (by omega)); (try have : w3.heap.size < w7.heap.size + 1 + 1 := (by omega)); (try have : w3.heap.size + 1 < w7.heap.size := (by omega)); (try have : w3.heap.size + 1 < w7.heap.size + 1 := (by omega)); (try have : w3.heap.size + 1 < w7.heap.size + 1 + 1 := (by omega)); (try have : w3.heap.size + 1 + 1 < w7.heap.size := (by omega)); (try have : w3.heap.size + 1 + 1 < w7.heap.size + 1 := (by omega)); (try have : w3.heap.size + 1 + 1 < w7.heap.size + 1 + 1 := (by omega)); (try have : w4.heap.size < w7.heap.size := (by omega)); (try have : w4.heap.size < w7.heap.size + 1 := (by omega)); (try have : w4.heap.size < w7.heap.size + 1 + 1 := (by omega)); (try have : w4.heap.size + 1 < w7.heap.size := (by omega)); (try have : w4.heap.size + 1 < w7.heap.size + 1 := (by omega)); (try have : w4.heap.size + 1 < w7.heap.size + 1 + 1 := (by omega)); (try have : w4.heap.size + 1 + 1 < w7.heap.size := (by omega)); (try have : w4.heap.size + 1 + 1 < w7.heap.size + 1 := (by omega)); (try have : w4.heap.size + 1 + 1 < w7.heap.size + 1 + 1 := (by omega)); (try have : w5.heap.size < w7.heap.size := (by omega)); (try have : w5.heap.size < w7.heap.size + 1 := (by omega)); (try have : w5.heap.size < w7.heap.size + 1 + 1 := (by omega)); (try have : w5.heap.size + 1 < w7.heap.size := (by omega)); (try have : w5.heap.size + 1 < w7.heap.size + 1 := (by omega)); (try have : w5.heap.size + 1 < w7.heap.size + 1 + 1 := (by omega)); (try have : w5.heap.size + 1 + 1 < w7.heap.size := (by omega)); (try have : w5.heap.size + 1 + 1 < w7.heap.size + 1 := (by omega)); (try have : w5.heap.size + 1 + 1 < w7.heap.size + 1 + 1 := (by omega)); (try have : w6.heap.size < w7.heap.size := (by omega)); (try have : w6.heap.size < w7.heap.size + 1 := (by omega)); (try have : w6.heap.size < w7.heap.size + 1 + 1 := (by omega)); (try have : w6.heap.size + 1 < w7.heap.size := (by omega)); (try have : w6.heap.size + 1 < w7.heap.size + 1 := (by omega)); (try have : w6.heap.size + 1 < w7.heap.size + 1 + 1 := (by omega)); (try have : w6.heap.size + 1 + 1 < w7.heap.size := (by omega)); (try have : w6.heap.size + 1 + 1 < w7.heap.size + 1 := (by omega)); (try have : w6.heap.size + 1 + 1 < w7.heap.size + 1 + 1 := (by omega)); clear haft
                      go_wp2
                      go_roundw
                      case rel => exact ⟨j + 1, M2, ch, by omega, by go_num, rfl, (HM.out.alloc _).up hb7, hrc, Hs, hcn, hcs, (HK.out.alloc _).up hb7⟩
                      case measure => simp [intOf]; omega
                    cases e4 : hsM (eff (opr t.ops k).effs j).whn M2
                    case false =>
                      rw [e3] at KP
                      rw [e4] at KW
                      have Hs := Lib.hid (show ch = false → ClK t (a1, a2) M2 k (j + 1) from fun hc => clK_step (hcl.out hc) (fun _ _ h => by rw [e4] at h; cases h))
                      go_wp2_with fail
                      refine wp_region_aft (by kernel_rfl) (by kernel_rfl) (by (try simp); exact rfl) ?_; intro haft; (repeat (go_big_quiet_step ((first | (go_at_call 47; with_reducible exact aft_of (KP.out _ (Aft.below _))) | (go_at_call 47; with_reducible exact aft_of (KW.out _ (Aft.below _))))))); refine wpQuiet_nil ?_; intro w7 hwx; have hb7 := aft_below hwx; clear hwx; obtain ⟨hc7, hf7, hz7, hlt7, hle7⟩ := cellsIf hb7 (by (try simp); exact rfl); (try have : w.heap.size < w7.heap.size := (by omega)); (try have : w.heap.size < w7.heap.size + 1 := (by omega)); (try have : w.heap.size < w7.heap.size + 1 + 1 := (by omega)); (try have : w.heap.size + 1 < w7.heap.size := (by omega)); (try have : w.heap.size + 1 < w7.heap.size + 1 := (by omega)); (try have : w.heap.size + 1 < w7.heap.size + 1 + 1 := (by omega)); (try have : w.heap.size + 1 + 1 < w7.heap.size := (by omega)); (try have : w.heap.size + 1 + 1 < w7.heap.size + 1 := (by omega)); (try have : w.heap.size + 1 + 1 < w7.heap.size + 1 + 1 := (by omega)); (try have : w1.heap.size < w7.heap.size := (by omega)); (try have : w1.heap.size < w7.heap.size + 1 := (by omega)); (try have : w1.heap.size < w7.heap.size + 1 + 1 := (by omega)); (try have : w1.heap.size + 1 < w7.heap.size := (by omega)); (try have : w1.heap.size + 1 < w7.heap.size + 1 := (by omega)); (try have : w1.heap.size + 1 < w7.heap.size + 1 + 1 := (by omega)); (try have : w1.heap.size + 1 + 1 < w7.heap.size := (by omega)); (try have : w1.heap.size + 1 + 1 < w7.heap.size + 1 := (by omega)); (try have : w1.heap.size + 1 + 1 < w7.heap.size + 1 + 1 := (by omega)); (try have : w2.heap.size < w7.heap.size := (by omega)); (try have : w2.heap.size < w7.heap.size + 1 := (by omega)); (try have : w2.heap.size < w7.heap.size + 1 + 1 := (by omega)); (try have : w2.heap.size + 1 < w7.heap.size := (by omega)); (try have : w2.heap.size + 1 < w7.heap.size + 1 := (by omega)); (try have : w2.heap.size + 1 < w7.heap.size + 1 + 1 := (by omega)); (try have : w2.heap.size + 1 + 1 < w7.heap.size := (by omega)); (try have : w2.heap.size + 1 + 1 < w7.heap.size + 1 := (by omega)); (try have : w2.heap.size + 1 + 1 < w7.heap.size + 1 + 1 := (by omega)); (try have : w3.heap.size < w7.heap.size := (by omega)); (try have : w3.heap.size < w7.heap.size + 1 := (by omega)); (try have : w3.heap.size < w7.heap.size + 1 + 1 := (by omega)); (try have : w3.heap.size + 1 < w7.heap.size := (by omega)); (try have : w3.heap.size + 1 < w7.heap.size + 1 := (by omega)); (try have : w3.heap.size + 1 < w7.heap.size + 1 + 1 := (by omega)); (try have : w3.heap.size + 1 + 1 < w7.heap.size := (by omega)); (try have : w3.heap.size + 1 + 1 < w7.heap.size + 1 := (by omega)); (try have : w3.heap.size + 1 + 1 < w7.heap.size + 1 + 1 := (by omega)); (try have : w4.heap.size < w7.heap.size := (by omega)); (try have : w4.heap.size < w7.heap.size + 1 := (by omega)); (try have : w4.heap.size < w7.heap.size + 1 + 1 := (by omega)); (try have : w4.heap.size + 1 < w7.heap.size := (by omega)); (try have : w4.heap.size + 1 < w7.heap.size + 1 := (by omega)); (try have : w4.heap.size + 1 < w7.heap.size + 1 + 1 := (by omega)); (try have : w4.heap.size + 1 + 1 < w7.heap.size := (by omega)); (try have : w4.heap.size + 1 + 1 < w7.heap.size + 1 := (by omega)); (try have : w4.heap.size + 1 + 1 < w7.heap.size + 1 + 1 := (by omega)); (try have : w5.heap.size < w7.heap.size := (by omega)); (try have : w5.heap.size < w7.heap.size + 1 := (by omega)); (try have : w5.heap.size < w7.heap.size + 1 + 1 := (by omega)); (try have : w5.heap.size + 1 < w7.heap.size := (by omega)); (try have : w5.heap.size + 1 < w7.heap.size + 1 := (by omega)); (try have : w5.heap.size + 1 < w7.heap.size + 1 + 1 := (by omega)); (try have : w5.heap.size + 1 + 1 < w7.heap.size := (by omega)); (try have : w5.heap.size + 1 + 1 < w7.heap.size + 1 := (by omega)); (try have : w5.heap.size + 1 + 1 < w7.heap.size + 1 + 1 := (by omega)); (try have : w6.heap.size < w7.heap.size := (by omega)); (try have : w6.heap.size < w7.heap.size + 1 := (by omega)); (try have : w6.heap.size < w7.heap.size + 1 + 1 := (by omega)); (try have : w6.heap.size + 1 < w7.heap.size := (by omega)); (try have : w6.heap.size + 1 < w7.heap.size + 1 := (by omega)); (try have : w6.heap.size + 1 < w7.heap.size + 1 + 1 := (by omega)); (try have : w6.heap.size + 1 + 1 < w7.heap.size := (by omega)); (try have : w6.heap.size + 1 + 1 < w7.heap.size + 1 := (by omega)); (try have : w6.heap.size + 1 + 1 < w7.heap.size + 1 + 1 := (by omega)); clear haft
                      go_wp2
                      go_roundw
                      case rel => exact ⟨j + 1, M2, ch, by omega, by go_num, rfl, (HM.out.alloc _).up hb7, hrc, Hs, hcn, hcs, (HK.out.alloc _).up hb7⟩
                      case measure => simp [intOf]; omega
                    rw [e3] at KP
                    rw [e4] at KW
                    have hmk := rc_mark HR.out hrc.out hlt hltj (by rw [Hef.out]; exact Hne.out) e3 e4
                    rw [Hef.out] at hmk
                    have Hmk := Lib.hid (show RcI t s (a1, a2) (put2 M2 uv ux) by simpa using hmk)
                    have Hcc := Lib.hid (cnt2_put (n := t.vars.length) e2 hxl hvn)
                    clear hmk
                    go_wp2_with fail
                    refine wp_region_aft (by kernel_rfl) (by kernel_rfl) (by (try simp); exact rfl) ?_; intro haft; (repeat (go_big_quiet_step ((first | (go_at_call 47; with_reducible exact aft_of (KP.out _ (Aft.below _))) | (go_at_call 47; with_reducible exact aft_of (KW.out _ (Aft.below _))))))); refine wpQuiet_nil ?_; intro w7 hwx; have hb7 := aft_below hwx; clear hwx; obtain ⟨hc7, hf7, hz7, hlt7, hle7⟩ := cellsIf hb7 (by (try simp); exact rfl); (try have : w.heap.size < w7.heap.size := (by omega)); (try have : w.heap.size < w7.heap.size + 1 := (by omega)); (try have : w.heap.size < w7.heap.size + 1 + 1 := (by omega)); (try have : w.heap.size + 1 < w7.heap.size := (by omega)); (try have : w.heap.size + 1 < w7.heap.size + 1 := (by omega)); (try have : w.heap.size + 1 < w7.heap.size + 1 + 1 := (by omega)); (try have : w.heap.size + 1 + 1 < w7.heap.size := (by omega)); (try have : w.heap.size + 1 + 1 < w7.heap.size + 1 := (by omega)); (try have : w.heap.size + 1 + 1 < w7.heap.size + 1 + 1 := (by omega)); (try have : w1.heap.size < w7.heap.size := (by omega)); (try have : w1.heap.size < w7.heap.size + 1 := (by omega)); (try have : w1.heap.size < w7.heap.size + 1 + 1 := (by omega)); (try have : w1.heap.size + 1 < w7.heap.size := (by omega)); (try have : w1.heap.size + 1 < w7.heap.size + 1 := (by omega)); (try have : w1.heap.size + 1 < w7.heap.size + 1 + 1 := (by omega)); (try have : w1.heap.size + 1 + 1 < w7.heap.size := (by omega)); (try have : w1.heap.size + 1 + 1 < w7.heap.size + 1 := (by omega)); (try have : w1.heap.size + 1 + 1 < w7.heap.size + 1 + 1 := (by omega)); (try have : w2.heap.size < w7.heap.size := (by omega)); (try have : w2.heap.size < w7.heap.size + 1 := (by omega)); (try have : w2.heap.size < w7.heap.size + 1 + 1 := (by omega)); (try have : w2.heap.size + 1 < w7.heap.size := (by omega)); (try have : w2.heap.size + 1 < w7.heap.size + 1 := (by omega)); (try have : w2.heap.size + 1 < w7.heap.size + 1 + 1 := (by omega)); (try have : w2.heap.size + 1 + 1 < w7.heap.size := (by omega)); (try have : w2.heap.size + 1 + 1 < w7.heap.size + 1 := (by omega)); (try have : w2.heap.size + 1 + 1 < w7.heap.size + 1 + 1 := (by omega)); (try have : w3.heap.size < w7.heap.size := (by omega)); (try have : w3.heap.size < w7.heap.size + 1 := (by omega)); (try have : w3.heap.size < w7.heap.size + 1 + 1 := (by omega)); (try have : w3.heap.size + 1 < w7.heap.size := (by omega)); (try have : w3.heap.size + 1 < w7.heap.size + 1 := (by omega)); (try have : w3.heap.size + 1 < w7.heap.size + 1 + 1 := (by omega)); (try have : w3.heap.size + 1 + 1 < w7.heap.size := (by omega)); (try have : w3.heap.size + 1 + 1 < w7.heap.size + 1 := (by omega)); (try have : w3.heap.size + 1 + 1 < w7.heap.size + 1 + 1 := (by omega)); (try have : w4.heap.size < w7.heap.size := (by omega)); (try have : w4.heap.size < w7.heap.size + 1 := (by omega)); (try have : w4.heap.size < w7.heap.size + 1 + 1 := (by omega)); (try have : w4.heap.size + 1 < w7.heap.size := (by omega)); (try have : w4.heap.size + 1 < w7.heap.size + 1 := (by omega)); (try have : w4.heap.size + 1 < w7.heap.size + 1 + 1 := (by omega)); (try have : w4.heap.size + 1 + 1 < w7.heap.size := (by omega)); (try have : w4.heap.size + 1 + 1 < w7.heap.size + 1 := (by omega)); (try have : w4.heap.size + 1 + 1 < w7.heap.size + 1 + 1 := (by omega)); (try have : w5.heap.size < w7.heap.size := (by omega)); (try have : w5.heap.size < w7.heap.size + 1 := (by omega)); (try have : w5.heap.size < w7.heap.size + 1 + 1 := (by omega)); (try have : w5.heap.size + 1 < w7.heap.size := (by omega)); (try have : w5.heap.size + 1 < w7.heap.size + 1 := (by omega)); (try have : w5.heap.size + 1 < w7.heap.size + 1 + 1 := (by omega)); (try have : w5.heap.size + 1 + 1 < w7.heap.size := (by omega)); (try have : w5.heap.size + 1 + 1 < w7.heap.size + 1 := (by omega)); (try have : w5.heap.size + 1 + 1 < w7.heap.size + 1 + 1 := (by omega)); (try have : w6.heap.size < w7.heap.size := (by omega)); (try have : w6.heap.size < w7.heap.size + 1 := (by omega)); (try have : w6.heap.size < w7.heap.size + 1 + 1 := (by omega)); (try have : w6.heap.size + 1 < w7.heap.size := (by omega)); (try have : w6.heap.size + 1 < w7.heap.size + 1 := (by omega)); (try have : w6.heap.size + 1 < w7.heap.size + 1 + 1 := (by omega)); (try have : w6.heap.size + 1 + 1 < w7.heap.size := (by omega)); (try have : w6.heap.size + 1 + 1 < w7.heap.size + 1 := (by omega)); (try have : w6.heap.size + 1 + 1 < w7.heap.size + 1 + 1 := (by omega)); clear haft
                    have M7 := (HM.out.alloc (.cells #[.slice S' (eff (opr t.ops k).effs j).whn.length c', .int .i64 (uv : Int), .int .i64 (ux : Int)] 78)).up hb7
                    have s1 := M7.top uv hvn
                    have s2 := M7.cell hvn hxl
                    have s3 := M7.frozen ux hvn
                    have s4 := M7.rlt hvn
                    have s5 := M7.glt
                    have z7 := hb7.size
                    simp only [World.size_alloc] at z7
                    have s6 : w7.cell? ⟨wr.heap.size, 1, none⟩ = some (.int .i64 (uv : Int)) := (hb7.cell (p := ⟨wr.heap.size, 1, none⟩) (by simp)).trans (by simp)
                    have s7 : w7.cell? ⟨wr.heap.size, 2, none⟩ = some (.int .i64 (ux : Int)) := (hb7.cell (p := ⟨wr.heap.size, 2, none⟩) (by simp)).trans (by simp)
                    have s8 : wr.heap.size < w7.heap.size := z7
                    have Hlt := Lib.hid (show cnt2 (put2 M2 uv ux) (Ld t) t.vars.length < cnt2 M (Ld t) t.vars.length by have := Hcc.out; have := hcn.out; omega)
                    go_wp2_with fail
                    refine wp_region_G 8 (fun w' => w'.cell? ⟨wr.heap.size, 1, none⟩ = some (.int .i64 (uv : Int)) ∧ w'.cell? ⟨wr.heap.size, 2, none⟩ = some (.int .i64 (ux : Int)) ∧ w'.cell? ⟨g, uv, none⟩ = some (.slice (some ⟨rb uv, 0, none⟩) (Ld t uv) (Ld t uv))) (by kernel_rfl) (⟨s6, s7, s1⟩) ?_
                    intro hG0
                    refine wpAnyG_any (i := 0) (v := ?_) rfl hG0 (by kernel_rfl) (by kernel_rfl) (by kernel_rfl) rfl (fun _ _ _ h => h) (Or.inl ⟨by rfl, ?_⟩) ?_; rotate_left; (intro wS hSw; (try dsimp only at hSw); first | (go_simp; done) | (go_simp; with_reducible rfl) | (simp [go_sem, ↓IntWalk.iteOmega, *]; done) | (simp [go_sem, ↓IntWalk.iteOmega, *]; with_reducible rfl)); (intro hG1); clear hG0; (try simp only [Act.put, List.setIfInBounds_toArray, List.set_cons_zero, List.set_cons_succ, List.getElem_toArray, List.getElem_cons_succ, List.getElem_cons_zero])
                    refine wpAnyG_any (i := 1) (v := ?_) rfl hG1 (by kernel_rfl) (by kernel_rfl) (by kernel_rfl) rfl (fun _ _ _ h => h) (Or.inl ⟨by rfl, ?_⟩) ?_; rotate_left; (intro wS hSw; (try dsimp only at hSw); first | (go_simp; done) | (go_simp; with_reducible rfl) | (simp [go_sem, ↓IntWalk.iteOmega, *]; done) | (simp [go_sem, ↓IntWalk.iteOmega, *]; with_reducible rfl)); (intro hG2); clear hG1; (try simp only [Act.put, List.setIfInBounds_toArray, List.set_cons_zero, List.set_cons_succ, List.getElem_toArray, List.getElem_cons_succ, List.getElem_cons_zero])
                    refine wpAnyG_take (i := 2) (v := ?_) rfl hG2 (by kernel_rfl) (by kernel_rfl) (by kernel_rfl) rfl (by kernel_rfl) (fun _ _ _ h => h) (Or.inl ⟨by rfl, ?_⟩) ?_; rotate_left; (intro wS hSw; (try dsimp only at hSw); first | (go_simp; done) | (go_simp; with_reducible rfl) | (simp [go_sem, ↓IntWalk.iteOmega, *]; done) | (simp [go_sem, ↓IntWalk.iteOmega, *]; with_reducible rfl)); (intro hG3); clear hG2; (try simp only [Act.put, List.setIfInBounds_toArray, List.set_cons_zero, List.set_cons_succ, List.getElem_toArray, List.getElem_cons_succ, List.getElem_cons_zero])
                    refine wpAnyG_any (i := 3) (v := ?_) rfl hG3 (by kernel_rfl) (by kernel_rfl) (by kernel_rfl) rfl (fun _ _ _ h => h) (Or.inl ⟨by rfl, ?_⟩) ?_; rotate_left; (intro wS hSw; (try dsimp only at hSw); first | (go_simp; done) | (go_simp; with_reducible rfl) | (simp [go_sem, ↓IntWalk.iteOmega, *]; done) | (simp [go_sem, ↓IntWalk.iteOmega, *]; with_reducible rfl)); (intro hG4); clear hG3; (try simp only [Act.put, List.setIfInBounds_toArray, List.set_cons_zero, List.set_cons_succ, List.getElem_toArray, List.getElem_cons_succ, List.getElem_cons_zero])
                    refine wpAnyG_take (i := 4) (v := ?_) rfl hG4 (by kernel_rfl) (by kernel_rfl) (by kernel_rfl) rfl (by kernel_rfl) (fun _ _ _ h => h) (Or.inl ⟨by rfl, ?_⟩) ?_; rotate_left; (intro wS hSw; (try dsimp only at hSw); first | (go_simp; done) | (go_simp; with_reducible rfl) | (simp [go_sem, ↓IntWalk.iteOmega, *]; done) | (simp [go_sem, ↓IntWalk.iteOmega, *]; with_reducible rfl)); (intro hG5); clear hG4; (try simp only [Act.put, List.setIfInBounds_toArray, List.set_cons_zero, List.set_cons_succ, List.getElem_toArray, List.getElem_cons_succ, List.getElem_cons_zero])
                    refine wpAnyG_any (i := 5) (v := ?_) rfl hG5 (by kernel_rfl) (by kernel_rfl) (by kernel_rfl) rfl (fun _ _ _ h => h) (Or.inl ⟨by rfl, ?_⟩) ?_; rotate_left; (intro wS hSw; (try dsimp only at hSw); first | (go_simp; done) | (go_simp; with_reducible rfl) | (simp [go_sem, ↓IntWalk.iteOmega, *]; done) | (simp [go_sem, ↓IntWalk.iteOmega, *]; with_reducible rfl)); (intro hG6); clear hG5; (try simp only [Act.put, List.setIfInBounds_toArray, List.set_cons_zero, List.set_cons_succ, List.getElem_toArray, List.getElem_cons_succ, List.getElem_cons_zero])
                    refine wpAnyG_take (i := 6) (v := ?_) rfl hG6 (by kernel_rfl) (by kernel_rfl) (by kernel_rfl) rfl (by kernel_rfl) (fun _ _ _ h => h) (Or.inl ⟨by rfl, ?_⟩) ?_; rotate_left; (intro wS hSw; (try dsimp only at hSw); first | (go_simp; done) | (go_simp; with_reducible rfl) | (simp [go_sem, ↓IntWalk.iteOmega, *]; done) | (simp [go_sem, ↓IntWalk.iteOmega, *]; with_reducible rfl)); (intro hG7); clear hG6; (try simp only [Act.put, List.setIfInBounds_toArray, List.set_cons_zero, List.set_cons_succ, List.getElem_toArray, List.getElem_cons_succ, List.getElem_cons_zero])
                    refine wpAnyG_any (i := 7) (v := ?_) rfl hG7 (by kernel_rfl) (by kernel_rfl) (by kernel_rfl) rfl (fun _ _ _ h => h) (Or.inl ⟨by rfl, ?_⟩) ?_; rotate_left; (intro wS hSw; (try dsimp only at hSw); first | (go_simp; done) | (go_simp; with_reducible rfl) | (simp [go_sem, ↓IntWalk.iteOmega, *]; done) | (simp [go_sem, ↓IntWalk.iteOmega, *]; with_reducible rfl)); (intro hG8); clear hG7; (try simp only [Act.put, List.setIfInBounds_toArray, List.set_cons_zero, List.set_cons_succ, List.getElem_toArray, List.getElem_cons_succ, List.getElem_cons_zero])
                    refine wpAnyG_ready (rs := [8]) (by kernel_rfl) (by simp) (AllG.cons rfl hG8 (fun K hK => ?_) AllG.nil)
                    (go_simp)
                    refine hK.out _ _ (Or.inl rfl) (fun hG9 => ?_); clear hK hG8; (try simp only [Act.put, List.setIfInBounds_toArray, List.set_cons_zero, List.set_cons_succ, List.getElem_toArray, List.getElem_cons_succ, List.getElem_cons_zero])
                    refine wpAnyG_any (i := 9) (v := ?_) rfl hG9 (by kernel_rfl) (by kernel_rfl) (by kernel_rfl) rfl (fun _ _ _ h => h) (Or.inl ⟨by rfl, ?_⟩) ?_; rotate_left; (intro wS hSw; (try dsimp only at hSw); first | (go_simp; done) | (go_simp; with_reducible rfl) | (simp [go_sem, ↓IntWalk.iteOmega, *]; done) | (simp [go_sem, ↓IntWalk.iteOmega, *]; with_reducible rfl)); (intro hG10); clear hG9; (try simp only [Act.put, List.setIfInBounds_toArray, List.set_cons_zero, List.set_cons_succ, List.getElem_toArray, List.getElem_cons_succ, List.getElem_cons_zero])
                    refine wpAnyG_done (by kernel_rfl) ?_ _; clear hG10
                    go_wp2
                    go_roundw
                    case rel => exact ⟨j + 1, put2 M2 uv ux, true, by omega, by go_num, rfl, MatIs.put_true (M7.drew) hvn (fun _ _ _ _ => rfl), Hmk, Lib.hid (fun h => by cases h), Lib.hid (by have := Hlt.out; omega), Lib.hid (fun _ => Hlt.out), (((HK.out.alloc _).up hb7).drew).set (p := ⟨rb uv, ux, none⟩) r0 r1 _⟩
                    case measure => simp [intOf]; omega
                · obtain rfl : j = (opr t.ops k).effs.length := by omega
                  have Hcl2 := Lib.hid (fun hc => clK_row (hcl.out hc))
                  go_wp2
                  go_roundw
                  case rel => exact ⟨k + 1, M2, ch, by omega, by go_num, rfl, hmat, hrc, Hcl2, hcn, hcs, hkpr⟩
                  case measure => simp [intOf]; omega
            -- END FILL
            · obtain rfl : k = t.ops.length := by omega
              have Hg := Lib.hid (show 2 * cnt2 M1 (Ld t) t.vars.length + (if ch then 1 else 0) < gk by
                have h1 := Hgk.out
                have h2 := hcs.out
                have h3 := hcn.out
                cases ch
                · simp at h1 ⊢; omega
                · have := h2 rfl; simp at h1 ⊢; omega)
              go_wp2
              go_roundg (2 * cnt2 M1 (Ld t) t.vars.length + (if ch then 1 else 0))
              case measure => exact Hg.out
              case rel => exact ⟨M1, ch, rfl, rfl, hmat, hrc, hcl, hkp⟩

end Go.Proofs.Ythhfckjddknmeaa

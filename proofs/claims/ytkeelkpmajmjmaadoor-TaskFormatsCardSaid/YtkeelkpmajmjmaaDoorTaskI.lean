/- Clone. -/
import Derived.Test.YtkeelkpmajmjmaaDoorTaskF
import Derived.Lib.BufferMore
namespace Go.Proofs.YtkeelkpmajmjmaaDoor
set_option linter.unusedSimpArgs false
set_option linter.unusedVariables false
open Go.RowKit
set_option linter.unusedVariables false

theorem infoI : (Tryd.prog.info? 3).map (fun i => (i.zero, i.size, i.bytes)) = some (some (.int .i64 0), 1, 8) := by kernel_rfl
theorem undI : Tryd.prog.underlying 22 = some (.slice 3) := by kernel_rfl

/-- A list of numbers as cells. -/
def ic (l : List Int) : List Value := l.map (.int .i64)
theorem ic_get {l : List Int} {k : Nat} (h : k < l.length) : (ic l)[k]? = some (.int .i64 (nth l k)) := by unfold ic nth; simp [List.getD, List.getElem?_eq_getElem h]
/-- A row of the call's own, read as a list of numbers. -/
theorem own_ints {w : World} {B : Nat} {v : Value} {l : List Int} (h : w.ownsRow B 3 1 v l.length (ic l)) (hl : l.length ≤ 140737488355328) : ∃ A c, v = .slice A l.length c ∧ IntsAt w w.heap.size A l := by
  rcases h.2 with ⟨rfl, h0⟩ | ⟨b, cap, cur, rfl, hb, hg, hh⟩
  · rw [h0]; exact ⟨none, 0, rfl, hl, fun hn => absurd hn (by omega)⟩
  · refine ⟨_, cap, rfl, hl, fun _ => ⟨b, 0, rfl, (Array.getElem?_eq_some_iff.1 hg).1, fun k hk => ?_⟩⟩
    have := h.cells (g := b) rfl k _ (ic_get hk)
    simp [Addr.add] at this
    split at this
    · rename_i h0; subst h0; exact this
    · simpa using this

set_option maxRecDepth 4000 in
set_option maxHeartbeats 1000000 in
theorem clone_any (s : List Int) (A : Option Addr) (c : Nat) (w : World) (h : IntsAt w w.heap.size A s) (hs : s.length ≤ 1000000) :
    Calls Tryd.prog 39 #[.slice A s.length c] w fun e w' => (∃ v, e = .returned v ∧ w'.ownsRow w.heap.size 3 1 v s.length (ic s)) ∧ Below w.heap.size w w' := by
  obtain ⟨inf, hi, hz0, hz1, hz2⟩ := info_parts infoI
  have hA : A = none → s = [] := fun e => by
    rcases Nat.eq_zero_or_pos s.length with h0 | h0
    · exact List.length_eq_zero_iff.1 h0
    · obtain ⟨b, off, e2, _⟩ := h.2 h0; rw [e] at e2; cases e2
  cases A with
  | none =>
    obtain rfl := hA rfl
    have heq : ∀ w', (binOp .eql 22 (.slice none ([] : List Int).length c) (.slice none 0 0)).run Tryd.prog w' = .ok (.bool true) w' := fun w' => Lib.run_eql_slice_nil_nil w' _ c undI
    simp only [List.length_nil] at heq ⊢
    go_enter Tryd.func39, Tryd.ntmps39
    go_wp2
    go_ret
    exact ⟨⟨_, rfl, World.ownsRow_nil _ _ _ _⟩, by repeat (first | exact Below.refl _ _ | refine below_dN ?_ _ | refine Below.drew ?_ | refine Below.alloc ?_ (by first | omega | (simp; done) | (simp; omega)) _ | refine Below.setCell ?_ (by first | omega | (simp; done) | (simp; omega)) _ | refine below_step (by assumption) (by first | omega | (simp; done) | (simp; omega)) ?_)⟩
  | some ad =>
    have hcells : ∀ (j : Nat) (u : Value), (ic s)[j]? = some u → w.cell? (ad.add j) = some u := fun j u hj => by
      have hlt : j < s.length := by have := (List.getElem?_eq_some_iff.1 hj).1; simpa [ic] using this
      obtain ⟨b, off, e2, _, hc⟩ := h.2 (by omega)
      rw [ic_get hlt] at hj
      cases hj
      cases e2
      have := hc j hlt
      simp [Addr.add]
      split
      · rename_i h0; subst h0; simpa using this
      · simpa using this
    have hlt : ∀ j, j < s.length → (ad.add j).block < w.heap.size := fun j hj => by
      obtain ⟨b, off, e2, hb, _⟩ := h.2 (by omega)
      cases e2
      simp [Addr.add]; split <;> exact hb
    have Hn := Lib.hid (show ∀ (o : Obj) (j : Nat) (u : Value), (ic s)[j]? = some u → (w.alloc o).cell? (ad.add j) = some u from fun o j u hj =>
      (((Below.refl w.heap.size w).alloc (Nat.le_refl _) o).cell (hlt j (by have := (List.getElem?_eq_some_iff.1 hj).1; simpa [ic] using this))).trans (hcells j u hj))
    clear hcells hlt hA
    have heq : ∀ w', (binOp .eql 22 (.slice (some ad) s.length c) (.slice none 0 0)).run Tryd.prog w' = .ok (.bool false) w' := fun w' => Lib.run_eql_slice_some_nil w' ad _ c undI
    go_enter Tryd.func39, Tryd.ntmps39
    go_wp2_with (at_builtin; refine wpList_append_own _ rfl _ _ 22 rfl w.heap.size 3 inf (.int .i64 0) 1 8 undI hi hz0 hz1 hz2 rfl (by decide) _ 0 [] rfl (World.ownsRow_made w #[] 0 (Nat.le_refl _) (by simp [maxLen]) rfl) ad s.length c (ic s) rfl (by simp [ic]) (Hn.out _) (by intro u hu; simp [ic] at hu; obtain ⟨x, _, rfl⟩ := hu; rfl) (by unfold maxLen; omega) (by omega) (by simp) ?_; intro v' w1 hown' hgrow _; simp only [Nat.zero_add, List.nil_append] at hown'; have hb1 : Below w.heap.size w w1 := grown_below (Below.alloc (Below.refl _ _) (Nat.le_refl _) _) (Nat.le_refl _) (World.ownsRow_made w #[] 0 (Nat.le_refl _) (by simp [maxLen]) rfl) hgrow; have Hown := Lib.hid hown'; clear hgrow hown')
    go_ret
    exact ⟨⟨_, rfl, Hown.out⟩, hb1⟩

end Go.Proofs.YtkeelkpmajmjmaaDoor

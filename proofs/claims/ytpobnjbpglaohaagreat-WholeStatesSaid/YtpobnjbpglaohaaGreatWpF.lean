/- slices.Clone of rows. -/
import Derived.Test.YtpobnjbpglaohaaGreatWpE
import Derived.Maps.AppendAt
import Derived.Lib.BufferMore
namespace Go.Proofs.YtpobnjbpglaohaaGreat
set_option linter.unusedSimpArgs false
set_option linter.unusedVariables false
open Go Go.RowKit
set_option linter.unusedVariables false

/-- A row of m elements with these cells. -/
def RowX (w : World) (L : Nat) (A : Option Addr) (m : Nat) (xs : List Value) : Prop := 0 < m → ∃ b off, A = some ⟨b, off, none⟩ ∧ b < L ∧ ∀ (j : Nat) (u : Value), xs[j]? = some u → w.cell? ⟨b, off + j, none⟩ = some u
theorem RowX.keep {w w' : World} {L L' : Nat} {A : Option Addr} {m : Nat} {xs : List Value} (h : RowX w L A m xs) (k : Below L w w') (hl : L ≤ L') : RowX w' L' A m xs := fun h0 => by
  obtain ⟨b, off, e, hb, hc⟩ := h h0
  exact ⟨b, off, e, Nat.lt_of_lt_of_le hb hl, fun j u hj => (k.cell (p := ⟨b, _, none⟩) hb).trans (hc j u hj)⟩

theorem qinfU : (Tryz.prog.info? 100).map (fun i => (i.zero, i.size, i.bytes)) = some (some (.int .u64 0), 1, 8) := by kernel_rfl
theorem qundU : Tryz.prog.underlying 49 = some (.slice 100) := by kernel_rfl
set_option maxRecDepth 4000 in
set_option maxHeartbeats 1000000 in
theorem cloneU_any (xs : List Value) (m : Nat) (A : Option Addr) (c : Nat) (w : World) (h : RowX w w.heap.size A m xs) (hx : xs.length = m * 1) (h1 : ∀ u ∈ xs, u.oneCell' = true) (hm : m ≤ 1000000) :
    Calls Tryz.prog 36 #[.slice A m c] w fun e w' => (∃ v, e = .returned v ∧ w'.ownsRow w.heap.size 100 1 v m xs) ∧ Below w.heap.size w w' := by
  obtain ⟨inf, hi, hz0, hz1, hz2⟩ := info_parts qinfU
  have hA : A = none → m = 0 := fun e => by
    rcases Nat.eq_zero_or_pos m with h0 | h0
    · exact h0
    · obtain ⟨b, off, e2, _⟩ := h h0; rw [e] at e2; cases e2
  cases A with
  | none =>
    obtain rfl := hA rfl
    obtain rfl : xs = [] := List.length_eq_zero_iff.1 (by omega)
    have heq : ∀ w', (binOp .eql 49 (.slice none 0 c) (.slice none 0 0)).run Tryz.prog w' = .ok (.bool true) w' := fun w' => Lib.run_eql_slice_nil_nil w' _ c qundU
    go_enter Tryz.func36, Tryz.ntmps36
    go_wp2
    go_ret
    exact ⟨⟨_, rfl, World.ownsRow_nil _ _ _ _⟩, by repeat (first | exact Below.refl _ _ | refine below_dN ?_ _ | refine Below.drew ?_ | refine Below.alloc ?_ (by first | omega | (simp; done) | (simp; omega)) _ | refine Below.setCell ?_ (by first | omega | (simp; done) | (simp; omega)) _ | refine below_step (by assumption) (by first | omega | (simp; done) | (simp; omega)) ?_)⟩
  | some ad =>
    have hcells : ∀ (j : Nat) (u : Value), xs[j]? = some u → w.cell? (ad.add j) = some u := fun j u hj => by
      have hlt : j < xs.length := (List.getElem?_eq_some_iff.1 hj).1
      obtain ⟨b, off, e2, _, hc⟩ := h (by omega)
      cases e2
      have := hc j u hj
      simp [Addr.add]
      split
      · rename_i h0; subst h0; simpa using this
      · simpa using this
    have hlt : ∀ j, j < xs.length → (ad.add j).block < w.heap.size := fun j hj => by
      obtain ⟨b, off, e2, hb, _⟩ := h (by omega)
      cases e2
      simp [Addr.add]; split <;> exact hb
    have Hn := Lib.hid (show ∀ (o : Obj) (j : Nat) (u : Value), xs[j]? = some u → (w.alloc o).cell? (ad.add j) = some u from fun o j u hj =>
      (((Below.refl w.heap.size w).alloc (Nat.le_refl _) o).cell (hlt j (List.getElem?_eq_some_iff.1 hj).1)).trans (hcells j u hj))
    have H1 := Lib.hid h1
    clear hcells hlt hA h1
    have heq : ∀ w', (binOp .eql 49 (.slice (some ad) m c) (.slice none 0 0)).run Tryz.prog w' = .ok (.bool false) w' := fun w' => Lib.run_eql_slice_some_nil w' ad _ c qundU
    go_enter Tryz.func36, Tryz.ntmps36
    go_wp2_with (at_builtin; refine wpList_append_own _ rfl _ _ 49 rfl w.heap.size 100 inf (.int .u64 0) 1 8 qundU hi hz0 hz1 hz2 rfl (by decide) _ 0 [] rfl (World.ownsRow_made w #[] 0 (Nat.le_refl _) (by simp [maxLen]) rfl) ad m c xs rfl hx (Hn.out _) H1.out (by unfold maxLen; omega) (by omega) (by simp) ?_; intro v' w1 hown' hgrow _; simp only [Nat.zero_add, List.nil_append] at hown'; have hb1 : Below w.heap.size w w1 := grown_below2 (s := 1) (Below.alloc (Below.refl _ _) (Nat.le_refl _) _) (Nat.le_refl _) (World.ownsRow_made w #[] 0 (Nat.le_refl _) (by simp [maxLen]) rfl) hgrow; have Hown := Lib.hid hown'; clear hgrow hown')
    go_ret
    exact ⟨⟨_, rfl, Hown.out⟩, hb1⟩

theorem qinfI : (Tryz.prog.info? 3).map (fun i => (i.zero, i.size, i.bytes)) = some (some (.int .i64 0), 1, 8) := by kernel_rfl
theorem qundI : Tryz.prog.underlying 22 = some (.slice 3) := by kernel_rfl
set_option maxRecDepth 4000 in
set_option maxHeartbeats 1000000 in
theorem cloneI_any (xs : List Value) (m : Nat) (A : Option Addr) (c : Nat) (w : World) (h : RowX w w.heap.size A m xs) (hx : xs.length = m * 1) (h1 : ∀ u ∈ xs, u.oneCell' = true) (hm : m ≤ 1000000) :
    Calls Tryz.prog 40 #[.slice A m c] w fun e w' => (∃ v, e = .returned v ∧ w'.ownsRow w.heap.size 3 1 v m xs) ∧ Below w.heap.size w w' := by
  obtain ⟨inf, hi, hz0, hz1, hz2⟩ := info_parts qinfI
  have hA : A = none → m = 0 := fun e => by
    rcases Nat.eq_zero_or_pos m with h0 | h0
    · exact h0
    · obtain ⟨b, off, e2, _⟩ := h h0; rw [e] at e2; cases e2
  cases A with
  | none =>
    obtain rfl := hA rfl
    obtain rfl : xs = [] := List.length_eq_zero_iff.1 (by omega)
    have heq : ∀ w', (binOp .eql 22 (.slice none 0 c) (.slice none 0 0)).run Tryz.prog w' = .ok (.bool true) w' := fun w' => Lib.run_eql_slice_nil_nil w' _ c qundI
    go_enter Tryz.func40, Tryz.ntmps40
    go_wp2
    go_ret
    exact ⟨⟨_, rfl, World.ownsRow_nil _ _ _ _⟩, by repeat (first | exact Below.refl _ _ | refine below_dN ?_ _ | refine Below.drew ?_ | refine Below.alloc ?_ (by first | omega | (simp; done) | (simp; omega)) _ | refine Below.setCell ?_ (by first | omega | (simp; done) | (simp; omega)) _ | refine below_step (by assumption) (by first | omega | (simp; done) | (simp; omega)) ?_)⟩
  | some ad =>
    have hcells : ∀ (j : Nat) (u : Value), xs[j]? = some u → w.cell? (ad.add j) = some u := fun j u hj => by
      have hlt : j < xs.length := (List.getElem?_eq_some_iff.1 hj).1
      obtain ⟨b, off, e2, _, hc⟩ := h (by omega)
      cases e2
      have := hc j u hj
      simp [Addr.add]
      split
      · rename_i h0; subst h0; simpa using this
      · simpa using this
    have hlt : ∀ j, j < xs.length → (ad.add j).block < w.heap.size := fun j hj => by
      obtain ⟨b, off, e2, hb, _⟩ := h (by omega)
      cases e2
      simp [Addr.add]; split <;> exact hb
    have Hn := Lib.hid (show ∀ (o : Obj) (j : Nat) (u : Value), xs[j]? = some u → (w.alloc o).cell? (ad.add j) = some u from fun o j u hj =>
      (((Below.refl w.heap.size w).alloc (Nat.le_refl _) o).cell (hlt j (List.getElem?_eq_some_iff.1 hj).1)).trans (hcells j u hj))
    have H1 := Lib.hid h1
    clear hcells hlt hA h1
    have heq : ∀ w', (binOp .eql 22 (.slice (some ad) m c) (.slice none 0 0)).run Tryz.prog w' = .ok (.bool false) w' := fun w' => Lib.run_eql_slice_some_nil w' ad _ c qundI
    go_enter Tryz.func40, Tryz.ntmps40
    go_wp2_with (at_builtin; refine wpList_append_own _ rfl _ _ 22 rfl w.heap.size 3 inf (.int .i64 0) 1 8 qundI hi hz0 hz1 hz2 rfl (by decide) _ 0 [] rfl (World.ownsRow_made w #[] 0 (Nat.le_refl _) (by simp [maxLen]) rfl) ad m c xs rfl hx (Hn.out _) H1.out (by unfold maxLen; omega) (by omega) (by simp) ?_; intro v' w1 hown' hgrow _; simp only [Nat.zero_add, List.nil_append] at hown'; have hb1 : Below w.heap.size w w1 := grown_below2 (s := 1) (Below.alloc (Below.refl _ _) (Nat.le_refl _) _) (Nat.le_refl _) (World.ownsRow_made w #[] 0 (Nat.le_refl _) (by simp [maxLen]) rfl) hgrow; have Hown := Lib.hid hown'; clear hgrow hown')
    go_ret
    exact ⟨⟨_, rfl, Hown.out⟩, hb1⟩

theorem qinfE : (Tryz.prog.info? 64).map (fun i => (i.zero, i.size, i.bytes)) = some (some (.agg #[.int .i64 0, .int .i64 0, .int .i64 0]), 3, 24) := by kernel_rfl
theorem qundE : Tryz.prog.underlying 45 = some (.slice 64) := by kernel_rfl
set_option maxRecDepth 4000 in
set_option maxHeartbeats 1000000 in
theorem cloneE_any (xs : List Value) (m : Nat) (A : Option Addr) (c : Nat) (w : World) (h : RowX w w.heap.size A m xs) (hx : xs.length = m * 3) (h1 : ∀ u ∈ xs, u.oneCell' = true) (hm : m ≤ 1000000) :
    Calls Tryz.prog 42 #[.slice A m c] w fun e w' => (∃ v, e = .returned v ∧ w'.ownsRow w.heap.size 64 3 v m xs) ∧ Below w.heap.size w w' := by
  obtain ⟨inf, hi, hz0, hz1, hz2⟩ := info_parts qinfE
  have hA : A = none → m = 0 := fun e => by
    rcases Nat.eq_zero_or_pos m with h0 | h0
    · exact h0
    · obtain ⟨b, off, e2, _⟩ := h h0; rw [e] at e2; cases e2
  cases A with
  | none =>
    obtain rfl := hA rfl
    obtain rfl : xs = [] := List.length_eq_zero_iff.1 (by omega)
    have heq : ∀ w', (binOp .eql 45 (.slice none 0 c) (.slice none 0 0)).run Tryz.prog w' = .ok (.bool true) w' := fun w' => Lib.run_eql_slice_nil_nil w' _ c qundE
    go_enter Tryz.func42, Tryz.ntmps42
    go_wp2
    go_ret
    exact ⟨⟨_, rfl, World.ownsRow_nil _ _ _ _⟩, by repeat (first | exact Below.refl _ _ | refine below_dN ?_ _ | refine Below.drew ?_ | refine Below.alloc ?_ (by first | omega | (simp; done) | (simp; omega)) _ | refine Below.setCell ?_ (by first | omega | (simp; done) | (simp; omega)) _ | refine below_step (by assumption) (by first | omega | (simp; done) | (simp; omega)) ?_)⟩
  | some ad =>
    have hcells : ∀ (j : Nat) (u : Value), xs[j]? = some u → w.cell? (ad.add j) = some u := fun j u hj => by
      have hlt : j < xs.length := (List.getElem?_eq_some_iff.1 hj).1
      obtain ⟨b, off, e2, _, hc⟩ := h (by omega)
      cases e2
      have := hc j u hj
      simp [Addr.add]
      split
      · rename_i h0; subst h0; simpa using this
      · simpa using this
    have hlt : ∀ j, j < xs.length → (ad.add j).block < w.heap.size := fun j hj => by
      obtain ⟨b, off, e2, hb, _⟩ := h (by omega)
      cases e2
      simp [Addr.add]; split <;> exact hb
    have Hn := Lib.hid (show ∀ (o : Obj) (j : Nat) (u : Value), xs[j]? = some u → (w.alloc o).cell? (ad.add j) = some u from fun o j u hj =>
      (((Below.refl w.heap.size w).alloc (Nat.le_refl _) o).cell (hlt j (List.getElem?_eq_some_iff.1 hj).1)).trans (hcells j u hj))
    have H1 := Lib.hid h1
    clear hcells hlt hA h1
    have heq : ∀ w', (binOp .eql 45 (.slice (some ad) m c) (.slice none 0 0)).run Tryz.prog w' = .ok (.bool false) w' := fun w' => Lib.run_eql_slice_some_nil w' ad _ c qundE
    go_enter Tryz.func42, Tryz.ntmps42
    go_wp2_with (at_builtin; refine wpList_append_own _ rfl _ _ 45 rfl w.heap.size 64 inf (.agg #[.int .i64 0, .int .i64 0, .int .i64 0]) 3 24 qundE hi hz0 hz1 hz2 rfl (by decide) _ 0 [] rfl (World.ownsRow_made w #[] 0 (Nat.le_refl _) (by simp [maxLen]) rfl) ad m c xs rfl hx (Hn.out _) H1.out (by unfold maxLen; omega) (by omega) (by simp) ?_; intro v' w1 hown' hgrow _; simp only [Nat.zero_add, List.nil_append] at hown'; have hb1 : Below w.heap.size w w1 := grown_below2 (s := 3) (Below.alloc (Below.refl _ _) (Nat.le_refl _) _) (Nat.le_refl _) (World.ownsRow_made w #[] 0 (Nat.le_refl _) (by simp [maxLen]) rfl) hgrow; have Hown := Lib.hid hown'; clear hgrow hown')
    go_ret
    exact ⟨⟨_, rfl, Hown.out⟩, hb1⟩

theorem qinfF : (Tryz.prog.info? 111).map (fun i => (i.zero, i.size, i.bytes)) = some (some (.agg #[.int .i64 0, .int .i64 0]), 2, 16) := by kernel_rfl
theorem qundF : Tryz.prog.underlying 23 = some (.slice 111) := by kernel_rfl
set_option maxRecDepth 4000 in
set_option maxHeartbeats 1000000 in
theorem cloneF_any (xs : List Value) (m : Nat) (A : Option Addr) (c : Nat) (w : World) (h : RowX w w.heap.size A m xs) (hx : xs.length = m * 2) (h1 : ∀ u ∈ xs, u.oneCell' = true) (hm : m ≤ 1000000) :
    Calls Tryz.prog 48 #[.slice A m c] w fun e w' => (∃ v, e = .returned v ∧ w'.ownsRow w.heap.size 111 2 v m xs) ∧ Below w.heap.size w w' := by
  obtain ⟨inf, hi, hz0, hz1, hz2⟩ := info_parts qinfF
  have hA : A = none → m = 0 := fun e => by
    rcases Nat.eq_zero_or_pos m with h0 | h0
    · exact h0
    · obtain ⟨b, off, e2, _⟩ := h h0; rw [e] at e2; cases e2
  cases A with
  | none =>
    obtain rfl := hA rfl
    obtain rfl : xs = [] := List.length_eq_zero_iff.1 (by omega)
    have heq : ∀ w', (binOp .eql 23 (.slice none 0 c) (.slice none 0 0)).run Tryz.prog w' = .ok (.bool true) w' := fun w' => Lib.run_eql_slice_nil_nil w' _ c qundF
    go_enter Tryz.func48, Tryz.ntmps48
    go_wp2
    go_ret
    exact ⟨⟨_, rfl, World.ownsRow_nil _ _ _ _⟩, by repeat (first | exact Below.refl _ _ | refine below_dN ?_ _ | refine Below.drew ?_ | refine Below.alloc ?_ (by first | omega | (simp; done) | (simp; omega)) _ | refine Below.setCell ?_ (by first | omega | (simp; done) | (simp; omega)) _ | refine below_step (by assumption) (by first | omega | (simp; done) | (simp; omega)) ?_)⟩
  | some ad =>
    have hcells : ∀ (j : Nat) (u : Value), xs[j]? = some u → w.cell? (ad.add j) = some u := fun j u hj => by
      have hlt : j < xs.length := (List.getElem?_eq_some_iff.1 hj).1
      obtain ⟨b, off, e2, _, hc⟩ := h (by omega)
      cases e2
      have := hc j u hj
      simp [Addr.add]
      split
      · rename_i h0; subst h0; simpa using this
      · simpa using this
    have hlt : ∀ j, j < xs.length → (ad.add j).block < w.heap.size := fun j hj => by
      obtain ⟨b, off, e2, hb, _⟩ := h (by omega)
      cases e2
      simp [Addr.add]; split <;> exact hb
    have Hn := Lib.hid (show ∀ (o : Obj) (j : Nat) (u : Value), xs[j]? = some u → (w.alloc o).cell? (ad.add j) = some u from fun o j u hj =>
      (((Below.refl w.heap.size w).alloc (Nat.le_refl _) o).cell (hlt j (List.getElem?_eq_some_iff.1 hj).1)).trans (hcells j u hj))
    have H1 := Lib.hid h1
    clear hcells hlt hA h1
    have heq : ∀ w', (binOp .eql 23 (.slice (some ad) m c) (.slice none 0 0)).run Tryz.prog w' = .ok (.bool false) w' := fun w' => Lib.run_eql_slice_some_nil w' ad _ c qundF
    go_enter Tryz.func48, Tryz.ntmps48
    go_wp2_with (at_builtin; refine wpList_append_own _ rfl _ _ 23 rfl w.heap.size 111 inf (.agg #[.int .i64 0, .int .i64 0]) 2 16 qundF hi hz0 hz1 hz2 rfl (by decide) _ 0 [] rfl (World.ownsRow_made w #[] 0 (Nat.le_refl _) (by simp [maxLen]) rfl) ad m c xs rfl hx (Hn.out _) H1.out (by unfold maxLen; omega) (by omega) (by simp) ?_; intro v' w1 hown' hgrow _; simp only [Nat.zero_add, List.nil_append] at hown'; have hb1 : Below w.heap.size w w1 := grown_below2 (s := 2) (Below.alloc (Below.refl _ _) (Nat.le_refl _) _) (Nat.le_refl _) (World.ownsRow_made w #[] 0 (Nat.le_refl _) (by simp [maxLen]) rfl) hgrow; have Hown := Lib.hid hown'; clear hgrow hown')
    go_ret
    exact ⟨⟨_, rfl, Hown.out⟩, hb1⟩
end Go.Proofs.YtpobnjbpglaohaaGreat

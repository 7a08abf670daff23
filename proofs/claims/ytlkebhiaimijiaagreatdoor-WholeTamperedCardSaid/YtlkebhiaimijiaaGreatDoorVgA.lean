/- stratagemtop.changed, walked. -/
import Derived.Test.YtlkebhiaimijiaaGreatDoorNgE
import Derived.Test.YtlkebhiaimijiaaGreatDoorVfE
namespace Go.Proofs.YtlkebhiaimijiaaGreatDoor
set_option linter.unusedSimpArgs false
set_option linter.unusedVariables false
open Go Go.RowKit
set_option linter.unusedVariables false

/-- What changed returns: a text longer by one byte at most. -/
def ChRet (s : ByteArray) (e : Ending) : Prop := ∃ r : ByteArray, e = .returned (.string r) ∧ r.size ≤ s.size + 1
theorem conv_b (w : World) (c : Int) (h0 : 0 ≤ c) (h1 : c < 256) :
    ∃ r : ByteArray, r.size = 1 ∧ (convert 107 9 (.slice (some ⟨w.heap.size, 0, none⟩) 1 1)).run Tryz.prog (w.alloc (.cells #[.int .u8 c] 5)) = .ok (.string r) (w.alloc (.cells #[.int .u8 c] 5)) := by
  have h := run_convert_bytes_back (P := Tryz.prog) (w.alloc (.cells #[.int .u8 c] 5)) 107 9 5 ⟨w.heap.size, 0, none⟩ 1 [UInt8.ofNat c.toNat] Tryz.underlying107 Tryz.underlying5 Tryz.underlying9 (fun j hj => by
    have : j = 0 := by simp at hj; omega
    subst this
    have e : (UInt8.ofNat c.toNat).toNat = c.toNat := by rw [UInt8.toNat_ofNat']; omega
    show (w.alloc _).cell? ⟨w.heap.size, 0, none⟩ = _
    simp only [List.getElem_cons_zero, e]
    rw [show ((c.toNat : Nat) : Int) = c by omega]
    simp)
  exact ⟨_, rfl, h⟩
set_option maxHeartbeats 4000000 in
theorem changed_any (s : ByteArray) (a k c : Int) (w : World) (hs : s.size ≤ 900000) (ha : 0 ≤ a) (ha2 : a < 65536) (hk : 0 ≤ k) (hk2 : k < 256) (hc : 0 ≤ c) (hc2 : c < 256) :
    Calls Tryz.prog 20 #[.string s, .agg #[.int .u16 a, .int .u8 k, .int .u8 c]] w fun e w' => ChRet s e ∧ Below w.heap.size w w' := by
  have hcv := fun wx => conv_b wx c hc hc2
  obtain ⟨m, hm, hm2⟩ : ∃ m : Nat, a % ((s.size : Int) + 1) = m ∧ m ≤ s.size := by
    have h1 := Int.emod_nonneg a (show ((s.size : Int) + 1) ≠ 0 by omega)
    have h2 := Int.emod_lt_of_pos a (show 0 < ((s.size : Int) + 1) by omega)
    exact ⟨(a % ((s.size : Int) + 1)).toNat, by omega, by omega⟩
  have HCV := Lib.hid hcv
  clear hcv
  go_enter Tryz.func20, Tryz.ntmps20
  go_wp2_with fail
  · obtain ⟨w1, hw1⟩ : ∃ w1, w1 = w.alloc (.cells #[.int .u16 a, .int .u8 k, .int .u8 c] 56) := ⟨_, rfl⟩
    have hb1 : Below w.heap.size w w1 := by rw [hw1]; exact (Below.refl _ _).alloc (Nat.le_refl _) _
    have hx1 : BxI w1 w.heap.size 56 #[.int .u16 a, .int .u8 k, .int .u8 c] := by rw [hw1]; exact BxI.new _ _ _
    have d2 := hx1.cell 2 (.int .u8 c) rfl
    have hl1 := hx1.lt
    obtain ⟨r, hr, hcv⟩ : ∃ r : ByteArray, r.size = 1 ∧ (convert 107 9 (.slice (some ⟨w1.heap.size, 0, none⟩) 1 1)).run Tryz.prog ((w1.alloc (.cells #[.int .u8 c] 5)).drew) = .ok (.string r) ((w1.alloc (.cells #[.int .u8 c] 5)).drew) := HCV.out w1.drew
    clear HCV
    rw [← hw1]
    clear hw1 hx1
    obtain ⟨m1, hm1, hm1s, hm1m⟩ : ∃ m1 : Nat, IntKind.i64.wrap ((m : Int) + 1) = m1 ∧ m1 ≤ s.size ∧ m ≤ m1 := ⟨m + 1, by rw [IntWalk.i64_in _ (by omega)]; omega, by omega, by omega⟩
    refine wp_region_G 5 (fun w' => ∀ b o, w'.cell? ⟨b, o, none⟩ = if b < w1.heap.size then w1.cell? ⟨b, o, none⟩ else hidC w' b o) (by kernel_rfl) (cif (B := w1.heap.size) (W := w1) (Below.refl _ _).drew) ?_
    intro hG0
    refine wpS1 0 hG0 ?_; intro hG1; clear hG0
    refine wpS1 1 hG1 ?_; intro hG2; clear hG1
    refine wpS1 2 hG2 ?_; intro hG3; clear hG2
    refine wpS1 3 hG3 ?_; intro hG4; clear hG3
    refine wpS2 4 hG4 ?_; intro hG5; clear hG4
    refine wpS1 8 hG5 ?_; intro hG6; clear hG5
    refine wpS1 9 hG6 ?_; intro hG7; clear hG6
    refine wpS1 10 hG7 ?_; intro hG8; clear hG7
    refine wpS1 11 hG8 ?_; intro hG9; clear hG8
    refine wpAnyG_ready (rs := [5]) (by kernel_rfl) (by simp) (AllG.cons rfl hG9 (fun K hK => ?_) AllG.nil)
    (go_simp)
    refine hK.out _ _ (Or.inl rfl) (fun hG10 => wpN ?_); clear hK hG9
    refine wpAnyG_ready (rs := [6]) (by kernel_rfl) (by simp) (AllG.cons rfl hG10 (fun K hK => ?_) AllG.nil)
    (go_simp)
    refine hK.out _ _ (Or.inl rfl) (fun hG11 => wpN ?_); clear hK hG10
    refine wpS1 7 hG11 ?_; intro hG12; clear hG11
    refine wpS1 12 hG12 ?_; intro hG13; clear hG12
    refine wpS1 13 hG13 ?_; intro hG14; clear hG13
    refine wpAnyG_done (by kernel_rfl) ?_ _; clear hG14
    go_wp2
    go_ret
    refine ⟨⟨_, rfl, ?_⟩, ?_⟩
    · simp [ByteArray.size_append, ByteArray.size_extract, hr]; omega
    · repeat (first | exact Below.refl _ _ | refine below_dN ?_ _ | refine Below.drew ?_ | refine Below.alloc ?_ (by first | omega | (simp; done) | (simp; omega)) _ | refine Below.setCell ?_ (by first | omega | (simp; done) | (simp; omega)) _ | refine below_step (by assumption) (by first | omega | (simp; done) | (simp; omega)) ?_)
  · go_ret
    exact ⟨⟨s, rfl, by omega⟩, (Below.refl _ _).alloc (Nat.le_refl _) _⟩
  · obtain ⟨w1, hw1⟩ : ∃ w1, w1 = w.alloc (.cells #[.int .u16 a, .int .u8 k, .int .u8 c] 56) := ⟨_, rfl⟩
    have hb1 : Below w.heap.size w w1 := by rw [hw1]; exact (Below.refl _ _).alloc (Nat.le_refl _) _
    have hx1 : BxI w1 w.heap.size 56 #[.int .u16 a, .int .u8 k, .int .u8 c] := by rw [hw1]; exact BxI.new _ _ _
    have d2 := hx1.cell 2 (.int .u8 c) rfl
    have hl1 := hx1.lt
    obtain ⟨r, hr, hcv⟩ : ∃ r : ByteArray, r.size = 1 ∧ (convert 107 9 (.slice (some ⟨w1.heap.size, 0, none⟩) 1 1)).run Tryz.prog ((w1.alloc (.cells #[.int .u8 c] 5)).drew) = .ok (.string r) ((w1.alloc (.cells #[.int .u8 c] 5)).drew) := HCV.out w1.drew
    clear HCV
    rw [← hw1]
    clear hw1 hx1
    refine wp_region_G 5 (fun w' => ∀ b o, w'.cell? ⟨b, o, none⟩ = if b < w1.heap.size then w1.cell? ⟨b, o, none⟩ else hidC w' b o) (by kernel_rfl) (cif (B := w1.heap.size) (W := w1) (Below.refl _ _).drew) ?_
    intro hG0
    refine wpS1 0 hG0 ?_; intro hG1; clear hG0
    refine wpS1 1 hG1 ?_; intro hG2; clear hG1
    refine wpS1 2 hG2 ?_; intro hG3; clear hG2
    refine wpS1 3 hG3 ?_; intro hG4; clear hG3
    refine wpS2 4 hG4 ?_; intro hG5; clear hG4
    refine wpS1 8 hG5 ?_; intro hG6; clear hG5
    refine wpS1 9 hG6 ?_; intro hG7; clear hG6
    refine wpS1 10 hG7 ?_; intro hG8; clear hG7
    refine wpAnyG_ready (rs := [5]) (by kernel_rfl) (by simp) (AllG.cons rfl hG8 (fun K hK => ?_) AllG.nil)
    (go_simp)
    refine hK.out _ _ (Or.inl rfl) (fun hG9 => wpN ?_); clear hK hG8
    refine wpAnyG_ready (rs := [6]) (by kernel_rfl) (by simp) (AllG.cons rfl hG9 (fun K hK => ?_) AllG.nil)
    (go_simp)
    refine hK.out _ _ (Or.inl rfl) (fun hG10 => wpN ?_); clear hK hG9
    refine wpS1 7 hG10 ?_; intro hG11; clear hG10
    refine wpS1 11 hG11 ?_; intro hG12; clear hG11
    refine wpS1 12 hG12 ?_; intro hG13; clear hG12
    refine wpAnyG_done (by kernel_rfl) ?_ _; clear hG13
    go_wp2
    go_ret
    refine ⟨⟨_, rfl, ?_⟩, ?_⟩
    · simp [ByteArray.size_append, ByteArray.size_extract, hr]; omega
    · repeat (first | exact Below.refl _ _ | refine below_dN ?_ _ | refine Below.drew ?_ | refine Below.alloc ?_ (by first | omega | (simp; done) | (simp; omega)) _ | refine Below.setCell ?_ (by first | omega | (simp; done) | (simp; omega)) _ | refine below_step (by assumption) (by first | omega | (simp; done) | (simp; omega)) ?_)
  · obtain ⟨w1, hw1⟩ : ∃ w1, w1 = w.alloc (.cells #[.int .u16 a, .int .u8 k, .int .u8 c] 56) := ⟨_, rfl⟩
    have hb1 : Below w.heap.size w w1 := by rw [hw1]; exact (Below.refl _ _).alloc (Nat.le_refl _) _
    rw [← hw1]
    clear hw1
    obtain ⟨m1, hm1, hm1s, hm1m⟩ : ∃ m1 : Nat, IntKind.i64.wrap ((m : Int) + 1) = m1 ∧ m1 ≤ s.size ∧ m ≤ m1 := ⟨m + 1, by rw [IntWalk.i64_in _ (by omega)]; omega, by omega, by omega⟩
    refine wp_region_G 8 (fun w' => True) (by kernel_rfl) (trivial) ?_
    intro hG0
    refine wpS1 0 hG0 ?_; intro hG1; clear hG0
    refine wpS1 1 hG1 ?_; intro hG2; clear hG1
    refine wpS1 2 hG2 ?_; intro hG3; clear hG2
    refine wpS1 3 hG3 ?_; intro hG4; clear hG3
    refine wpS1 4 hG4 ?_; intro hG5; clear hG4
    refine wpS1 5 hG5 ?_; intro hG6; clear hG5
    refine wpS1 6 hG6 ?_; intro hG7; clear hG6
    refine wpS1 7 hG7 ?_; intro hG8; clear hG7
    refine wpAnyG_ready (rs := [8]) (by kernel_rfl) (by simp) (AllG.cons rfl hG8 (fun K hK => ?_) AllG.nil)
    (go_simp)
    refine hK.out _ _ (Or.inl rfl) (fun hG9 => wpN ?_); clear hK hG8
    refine wpAnyG_done (by kernel_rfl) ?_ _; clear hG9
    go_wp2
    go_ret
    refine ⟨⟨_, rfl, ?_⟩, ?_⟩
    · simp [ByteArray.size_append, ByteArray.size_extract]; omega
    · repeat (first | exact Below.refl _ _ | refine below_dN ?_ _ | refine Below.drew ?_ | refine Below.alloc ?_ (by first | omega | (simp; done) | (simp; omega)) _ | refine Below.setCell ?_ (by first | omega | (simp; done) | (simp; omega)) _ | refine below_step (by assumption) (by first | omega | (simp; done) | (simp; omega)) ?_)
  · go_ret
    exact ⟨⟨s, rfl, by omega⟩, (Below.refl _ _).alloc (Nat.le_refl _) _⟩
end Go.Proofs.YtlkebhiaimijiaaGreatDoor

/- pack: Pack, walked. -/
import Derived.Test.YtpobnjbpglaohaaGreatWpC
namespace Go.Proofs.YtpobnjbpglaohaaGreat
set_option linter.unusedSimpArgs false
set_option linter.unusedVariables false
open Go Go.RowKit
set_option linter.unusedVariables false

/-- The fields of a packer of n words are in order. -/
structure FOk (F : List Fld) (n : Nat) : Prop where
  few : n ≤ 100
  len : F.length ≤ 64
  ok : ∀ f ∈ F, f.word < n ∧ f.bit + f.width ≤ 64 ∧ f.size ≤ 2 ^ f.width ∧ f.width ≤ 6
  apart : F.Pairwise FAhead
theorem mkF_le : ∀ (l : List Nat) (w b : Nat), (mkF l w b).2 ≤ w + l.length
  | [], w, b => Nat.le_refl _
  | n :: r, w, b => by
    rw [mkF_cons]
    split
    · have := mkF_le r (w + 1) (wdN n); simp only [List.length_cons]; omega
    · have := mkF_le r w (b + wdN n); simp only [List.length_cons]; omega
theorem fok_mk {l : List Int} (hn : ∀ k, k < l.length → 1 ≤ nth l k ∧ nth l k ≤ 64) (hl : l.length ≤ 64) : FOk (mkF (natL l) 1 0).1 (mkF (natL l) 1 0).2 := by
  have hL : (natL l).length = l.length := by unfold natL; simp
  have h1 := mkF_le (natL l) 1 0
  obtain ⟨h2, h3⟩ := mkF_ok (natL l) 1 0 (fun n hn' => by
    unfold natL at hn'
    obtain ⟨x, hx, rfl⟩ := List.mem_map.1 hn'
    obtain ⟨k, hk, rfl⟩ := List.getElem_of_mem hx
    have := (hn k hk).2
    unfold nth at this
    simp [List.getD, hk] at this
    omega) (Nat.le_refl _) (by omega)
  exact ⟨by omega, by rw [mkF_len]; omega, fun f hf => ⟨(h2 f hf).1, (h2 f hf).2.1, (h2 f hf).2.2.1, (h2 f hf).2.2.2.1⟩, h3⟩
/-- A state that the packer takes. -/
def StOk (F : List Fld) (s : List Int) : Prop := s.length = F.length ∧ ∀ i, i < F.length → 0 ≤ nth s i ∧ nth s i < (fld F i).size
/-- The words of a state. -/
def wdsOf (F : List Fld) (n : Nat) (s : List Int) : List Nat := packW (zw n) (F.zip (natL s))
theorem packW_app : ∀ (l : List (Fld × Nat)) (W : List Nat) (f : Fld) (x : Nat), packW W (l ++ [(f, x)]) = (packW W l).set f.word (wd (packW W l) f.word ||| x <<< f.bit)
  | [], W, f, x => rfl
  | (g, y) :: r, W, f, x => by
    rw [List.cons_append, packW, packW_app r, packW]
def zipL (F : List Fld) (s : List Int) (j : Nat) : List (Fld × Nat) := (F.zip (natL s)).take j
theorem fld_mem {F : List Fld} {i : Nat} (h : i < F.length) : fld F i ∈ F ∧ (F)[i]? = some (fld F i) := by
  unfold fld
  rw [List.getD, List.getElem?_eq_getElem h]
  exact ⟨List.getElem_mem h, rfl⟩
theorem zip_get {F : List Fld} {s : List Int} {j : Nat} (h : s.length = F.length) (hj : j < F.length) : (F.zip (natL s))[j]? = some (fld F j, (nth s j).toNat) := by
  rw [List.getElem?_zip_eq_some.2]
  refine ⟨(fld_mem hj).2, ?_⟩
  unfold natL nth
  rw [List.getElem?_map, List.getElem?_eq_getElem (by omega)]
  simp [List.getD, show j < s.length by omega]
theorem zipL_more {F : List Fld} {s : List Int} {j : Nat} (h : s.length = F.length) (hj : j < F.length) : zipL F s (j + 1) = zipL F s j ++ [(fld F j, (nth s j).toNat)] := by
  unfold zipL
  have hl : j < (F.zip (natL s)).length := by rw [List.length_zip]; unfold natL; simp; omega
  rw [List.take_succ_eq_append_getElem hl]
  have := zip_get h hj
  rw [List.getElem?_eq_getElem hl] at this
  rw [Option.some.inj this]
theorem zipL_ok {F : List Fld} {n : Nat} {s : List Int} (hF : FOk F n) (hs : StOk F s) (j : Nat) : ∀ p ∈ zipL F s j, (p.1.word < n ∧ p.1.bit + p.1.width ≤ 64) ∧ p.2 < 2 ^ p.1.width := by
  intro p hp
  have hp2 : p ∈ F.zip (natL s) := List.mem_of_mem_take hp
  obtain ⟨i, hi, rfl⟩ := List.getElem_of_mem hp2
  have hi2 : i < F.length := by rw [List.length_zip] at hi; exact (Nat.lt_min.1 hi).1
  have := zip_get hs.1 hi2
  rw [List.getElem?_eq_getElem hi] at this
  rw [Option.some.inj this]
  obtain ⟨h1, h2, h3, h4⟩ := hF.ok _ (fld_mem hi2).1
  have h5 := hs.2 i hi2
  refine ⟨⟨h1, h2⟩, ?_⟩
  change (nth s i).toNat < 2 ^ (fld F i).width
  change (fld F i).size ≤ 2 ^ (fld F i).width at h3
  generalize 2 ^ (fld F i).width = m at h3 ⊢
  omega
theorem shl_lt {x b n : Nat} (h : x < 2 ^ n) (hb : b + n ≤ 64) : x <<< b < 18446744073709551616 := by
  rw [Nat.shiftLeft_eq]
  have h1 : x * 2 ^ b < 2 ^ n * 2 ^ b := Nat.mul_lt_mul_of_pos_right h (Nat.two_pow_pos _)
  rw [← Nat.pow_add] at h1
  exact Nat.lt_of_lt_of_le h1 (Nat.pow_le_pow_right (by omega) (by omega) : 2 ^ (n + b) ≤ 2 ^ 64)
def u64C (W : List Nat) : List Value := W.map fun x => .int .u64 (x : Nat)
theorem u64C_get {W : List Nat} {i : Nat} (h : i < W.length) : (u64C W).toArray[i]? = some (.int .u64 (wd W i : Nat)) := by
  unfold u64C wd
  simp [List.getD, h]
theorem u64C_zw (N : Nat) : madeCells #[.int .u64 0] N = (u64C (zw N)).toArray := by
  apply Array.ext'
  unfold u64C zw madeCells
  apply List.ext_getElem
  · simp
  · intro i h1 h2
    simp [Nat.mod_one]
theorem make_u64 (N : Nat) (hN : N ≤ 100000) (w : World) : (Instr.makeSlice 49 (.int .i64 (N : Int)) (.int .i64 (N : Int))).run Tryz.prog w = .ok (.slice (some ⟨w.heap.size, 0, none⟩) N N) (w.alloc (.cells (u64C (zw N)).toArray 100)) := by
  obtain ⟨i, hi, hz, hs, hb⟩ := info_parts (show (Tryz.prog.info? 100).map (fun i => (i.zero, i.size, i.bytes)) = some (some (.int .u64 0), 1, 8) by kernel_rfl)
  have h := run_make (P := Tryz.prog) w 49 100 i _ (show Tryz.prog.underlying 49 = some (.slice 100) by kernel_rfl) hi hz .i64 .i64 (N : Int) (N : Int) (by omega) (Int.le_refl _) (by rw [hb]; omega) (by omega)
  rw [Int.toNat_natCast, hs, Nat.mul_one] at h
  rw [← u64C_zw]
  exact h
end Go.Proofs.YtpobnjbpglaohaaGreat

/- pack: mask, get, walked. -/
import Derived.Test.YtpobnjbpglaohaaGreatWgA
import Derived.Test.YtpobnjbpglaohaaGreatWpA
import Derived.Test.YtpobnjbpglaohaaGreatStm
import Derived.Laws.BitsAllLaws
namespace Go.Proofs.YtpobnjbpglaohaaGreat
set_option linter.unusedSimpArgs false
set_option linter.unusedVariables false
open Go Go.RowKit
set_option linter.unusedVariables false

/-- A field that lies in a word. -/
def FldOk (f : Fld) : Prop := f.bit + f.width ≤ 64 ∧ f.width ≤ 6
theorem mask_lt {f : Fld} (h : FldOk f) : maskF f < 2 ^ 64 := by
  apply Nat.lt_pow_two_of_testBit
  intro t ht
  rw [mask_bit]
  have := h.1
  cases h2 : decide (f.bit ≤ t) with
  | false => rfl
  | true => rw [Bool.true_and]; exact decide_eq_false (by omega)

theorem u64_nat (n : Nat) (h : n < 18446744073709551616) : IntKind.u64.wrap (n : Int) = (n : Int) := by
  have e : (n : Int) % 2 ^ 64 = n := Int.emod_eq_of_lt (by omega) (by omega)
  simp only [IntKind.wrap, IntKind.bits, IntKind.signed, e]
  simp
theorem i64_nat (n : Nat) (h : n < 9223372036854775808) : IntKind.i64.wrap (n : Int) = (n : Int) := by
  have e : (n : Int) % 2 ^ 64 = n := Int.emod_eq_of_lt (by omega) (by omega)
  simp only [IntKind.wrap, IntKind.bits, IntKind.signed, e]
  rw [if_neg]
  simp
  omega
theorem two_pow (n : Nat) : (2 : Int) ^ n = ((2 ^ n : Nat) : Int) := by simp
theorem mask_val {f : Fld} (h : FldOk f) : IntKind.u64.wrap (IntKind.u64.wrap (IntKind.u64.wrap (2 ^ f.width) - 1) * 2 ^ f.bit) = ((maskF f : Nat) : Int) := by
  have hw : 2 ^ f.width ≤ 2 ^ 6 := Nat.pow_le_pow_right (by omega) h.2
  have hp : 0 < 2 ^ f.width := Nat.two_pow_pos _
  have hm := mask_lt h
  rw [two_pow, two_pow, u64_nat _ (by omega), show ((2 ^ f.width : Nat) : Int) - 1 = ((2 ^ f.width - 1 : Nat) : Int) by omega, u64_nat _ (by omega), ← Int.natCast_mul]
  have e : maskF f = (2 ^ f.width - 1) * 2 ^ f.bit := by
    unfold maskF
    rw [Nat.one_shiftLeft, Nat.shiftLeft_eq]
  rw [← e, u64_nat _ (by omega)]

set_option maxHeartbeats 2000000 in
theorem mask_any (f : Fld) (w : World) (hf : FldOk f) :
    Calls Tryz.prog 38 #[.agg #[.int .i64 f.word, .int .i64 f.bit, .int .i64 f.width, .int .i64 f.size]] w fun e w' => e = .returned (.int .u64 (maskF f : Nat)) ∧ Below w.heap.size w w' := by
  have HV := Lib.hid (mask_val hf)
  obtain ⟨h1, h2⟩ := hf
  go_enter Tryz.func38, Tryz.ntmps38
  go_wp2_with fail
  go_quiet (fail)
  go_wp2
  refine bodyPost_ret (v := .int .u64 (IntKind.u64.wrap (IntKind.u64.wrap (IntKind.u64.wrap (2 ^ f.width) - 1) * 2 ^ f.bit))) (by simp [results, Tryz.results38, go_sem, ↓IntWalk.iteOmega, *]) rfl ⟨by rw [HV.out], by repeat (first | exact Below.refl _ _ | refine below_dN ?_ _ | refine Below.drew ?_ | refine Below.alloc ?_ (by first | omega | (simp; done) | (simp; omega)) _ | refine Below.setCell ?_ (by first | omega | (simp; done) | (simp; omega)) _ | refine below_step (by assumption) (by first | omega | (simp; done) | (simp; omega)) ?_)⟩

/-- The words of a state lie in row A. -/
def WdsAt (w : World) (A : Option Addr) (W : List Nat) : Prop := 0 < W.length → ∃ b off, A = some ⟨b, off, none⟩ ∧ b < w.heap.size ∧ ∀ i, i < W.length → w.cell? ⟨b, off + i, none⟩ = some (.int .u64 (wd W i : Nat))
theorem get_val {x : Nat} {f : Fld} (h : FldOk f) (hx : x < 18446744073709551616) : getF x f < 64 := by
  have : getF x f < 2 ^ 6 := by
    apply Nat.lt_pow_two_of_testBit
    intro t ht
    rw [get_bit]
    have := h.2
    rw [decide_eq_false (by omega), Bool.and_false]
  omega

set_option maxHeartbeats 2000000 in
theorem get_any (f : Fld) (A : Option Addr) (W : List Nat) (c : Nat) (w : World) (hf : FldOk f) (hW : WdsAt w A W) (hl : f.word < W.length) (hx : wd W f.word < 18446744073709551616) (hlen : W.length ≤ 1000) :
    Calls Tryz.prog 37 #[.agg #[.int .i64 f.word, .int .i64 f.bit, .int .i64 f.width, .int .i64 f.size], .slice A W.length c] w fun e w' => e = .returned (.int .i64 (getF (wd W f.word) f : Nat)) ∧ Below w.heap.size w w' := by
  obtain ⟨b, off, rfl, hb, hc⟩ := hW (by omega)
  have d0 := hc f.word hl
  have hml := mask_lt hf
  have KM := Lib.hid (fun W => mask_any f W hf)
  obtain ⟨h1, h2⟩ := hf
  clear hW hc
  go_enter Tryz.func37, Tryz.ntmps37
  go_wp2_with fail
  obtain ⟨wa, hwa⟩ : ∃ wa : World, w.alloc (Obj.cells #[.int .i64 f.word, .int .i64 f.bit, .int .i64 f.width, .int .i64 f.size] 92) = wa := ⟨_, rfl⟩
  have HA := Lib.hid (show Below w.heap.size w wa by rw [← hwa]; repeat (first | exact Below.refl _ _ | refine below_dN ?_ _ | refine Below.drew ?_ | refine Below.alloc ?_ (by first | omega | (simp; done) | (simp; omega)) _ | refine Below.setCell ?_ (by first | omega | (simp; done) | (simp; omega)) _ | refine below_step (by assumption) (by first | omega | (simp; done) | (simp; omega)) ?_))
  have HX := Lib.hid (show BxI wa w.heap.size 92 #[.int .i64 f.word, .int .i64 f.bit, .int .i64 f.width, .int .i64 f.size] by rw [← hwa]; exact BxI.new _ _ _)
  rw [hwa]
  clear hwa
  have HS1 := Lib.hid (show ∀ w' : World, Below wa.heap.size wa w' → w'.cell? ⟨w.heap.size, 0, none⟩ = some (.int .i64 f.word) ∧ w'.cell? ⟨w.heap.size, 1, none⟩ = some (.int .i64 f.bit) ∧ w'.cell? ⟨w.heap.size, 2, none⟩ = some (.int .i64 f.width) ∧ w'.cell? ⟨w.heap.size, 3, none⟩ = some (.int .i64 f.size) ∧ w'.cell? ⟨b, off + f.word, none⟩ = some (.int .u64 (wd W f.word : Nat)) from fun w' hb' =>
    ⟨(HX.out.up hb').cell 0 _ rfl, (HX.out.up hb').cell 1 _ rfl, (HX.out.up hb').cell 2 _ rfl, (HX.out.up hb').cell 3 _ rfl, ((HA.out.trans (hb'.mono HA.out.size)).cell (p := ⟨b, _, none⟩) hb).trans d0⟩)
  have hand := u64_and_nat (wd W f.word) (maskF f) hx (by omega)
  have hg : ((wd W f.word &&& maskF f : Nat) : Int) / 2 ^ f.bit = ((getF (wd W f.word) f : Nat) : Int) := by
    unfold getF
    rw [Nat.shiftRight_eq_div_pow, two_pow, Int.natCast_ediv]
  have hgl : getF (wd W f.word) f < 64 := get_val ⟨h1, h2⟩ hx
  clear d0
  refine wp_region_G 12 (fun w' => w'.cell? ⟨w.heap.size, 0, none⟩ = some (.int .i64 f.word) ∧ w'.cell? ⟨w.heap.size, 1, none⟩ = some (.int .i64 f.bit) ∧ w'.cell? ⟨w.heap.size, 2, none⟩ = some (.int .i64 f.width) ∧ w'.cell? ⟨w.heap.size, 3, none⟩ = some (.int .i64 f.size) ∧ w'.cell? ⟨b, off + f.word, none⟩ = some (.int .u64 (wd W f.word : Nat))) (by kernel_rfl) (HS1.out _ (by repeat (first | exact Below.refl _ _ | refine below_dN ?_ _ | refine Below.drew ?_ | refine Below.alloc ?_ (by first | omega | (simp; done) | (simp; omega)) _ | refine Below.setCell ?_ (by first | omega | (simp; done) | (simp; omega)) _ | refine below_step (by assumption) (by first | omega | (simp; done) | (simp; omega)) ?_))) ?_
  intro hG0
  refine wpS1 0 hG0 ?_; intro hG1; clear hG0
  refine wpS1 1 hG1 ?_; intro hG2; clear hG1
  refine wpS2 2 hG2 ?_; intro hG3; clear hG2
  refine wpS1 3 hG3 ?_; intro hG4; clear hG3
  refine wpS2 4 hG4 ?_; intro hG5; clear hG4
  refine wpS2 5 hG5 ?_; intro hG6; clear hG5
  refine wpS1 8 hG6 ?_; intro hG7; clear hG6
  refine wpS2 9 hG7 ?_; intro hG8; clear hG7
  refine wpAnyG_ready (rs := [6]) (by kernel_rfl) (by simp) (AllG.cons rfl hG8 (fun K hK => ?_) AllG.nil)
  (go_simp; go_at_call 38; refine (KM.out _).mono ?_; rintro e w3 ⟨rfl, hb3⟩; have HB3 := Lib.hid (show Below wa.heap.size wa w3 from below_step hb3 (show wa.heap.size ≤ wa.drew.heap.size from Nat.le_refl _) (Below.refl _ _).drew); clear hb3)
  refine hK.out _ _ (Or.inr (HS1.out _ HB3.out)) (fun hG9 => wpN ?_); clear hK hG8
  refine wpS1 7 hG9 ?_; intro hG10; clear hG9
  refine wpS1 10 hG10 ?_; intro hG11; clear hG10
  refine wpS1 11 hG11 ?_; intro hG12; clear hG11
  refine wpAnyG_ready (rs := [12]) (by kernel_rfl) (by simp) (AllG.cons rfl hG12 (fun K hK => ?_) AllG.nil)
  (go_simp)
  refine hK.out _ _ (Or.inl rfl) (fun hG13 => wpN ?_); clear hK hG12
  refine wpAnyG_done (by kernel_rfl) ?_ _; clear hG13
  have HV := Lib.hid (i64_nat (getF (wd W f.word) f) (by omega))
  go_wp2
  refine bodyPost_ret (v := .int .i64 (IntKind.i64.wrap (getF (wd W f.word) f : Nat))) (by simp [results, Tryz.results37, go_sem, ↓IntWalk.iteOmega, *]) rfl ⟨by rw [HV.out], HA.out.trans (HB3.out.mono HA.out.size)⟩
end Go.Proofs.YtpobnjbpglaohaaGreat

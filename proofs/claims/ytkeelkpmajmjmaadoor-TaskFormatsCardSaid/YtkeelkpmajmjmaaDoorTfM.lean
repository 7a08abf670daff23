/- Texts of tasks: numbers and facts, the program's. -/
import Derived.Test.YtkeelkpmajmjmaaDoorTfP
import Derived.Test.YtkeelkpmajmjmaaDoorShlE
import Derived.Test.YtkeelkpmajmjmaaDoorTaskD
import Derived.LoopTactic
namespace Go.Proofs.YtkeelkpmajmjmaaDoor
set_option linter.unusedSimpArgs false
set_option linter.unusedVariables false
open Go Go.RowKit
open Go.Lib (decDigits itoa decDigits_one)
set_option linter.unusedVariables false

theorem itB_bs (n : Int) : itB n = bs (itoa n) := rfl
theorem nu_cat {l : List Int} {k : Nat} (h : k < l.length) : bs (nuL l k) ++ (⟨#[32]⟩ ++ itB (nth l k)) = bs (nuL l (k + 1)) := by
  rw [nuL_succ h, itB_bs, show (⟨#[32]⟩ : ByteArray) = bs [32] from rfl, bs_app, bs_app]
  rfl
theorem fx_cat (x y : Int) : itB x ++ ⟨#[61]⟩ ++ itB y = bs (fxL (x, y)) := by
  rw [itB_bs, itB_bs, show (⟨#[61]⟩ : ByteArray) = bs [61] from rfl, bs_app, bs_app]
  unfold fxL
  rw [List.append_assoc]
  rfl
theorem fa_cat {f : List (Int × Int)} {k : Nat} (h : k < f.length) : bs (faL f k) ++ (⟨#[32]⟩ ++ itB (fv f k) ++ ⟨#[61]⟩ ++ itB (fx f k)) = bs (faL f (k + 1)) := by
  rw [faL_succ h, itB_bs, itB_bs, show (⟨#[32]⟩ : ByteArray) = bs [32] from rfl, show (⟨#[61]⟩ : ByteArray) = bs [61] from rfl, bs_app, bs_app, bs_app, bs_app]
  unfold fxL
  simp
theorem ints_in {w w' : World} {B : Nat} {A : Option Addr} {l : List Int} (h : IntsAt w B A l) (hb : Below B w w') {k : Nat} (hk : k < l.length) : ∃ b off, A = some ⟨b, off, none⟩ ∧ b < B ∧ w'.cell? ⟨b, off + k, none⟩ = some (.int .i64 (nth l k)) := by
  obtain ⟨b, o, e, hlt, hc⟩ := h.at_ hk
  exact ⟨b, o, e, hlt, (hb.cell hlt).trans (hc k hk)⟩
theorem facs_in {w w' : World} {B : Nat} {A : Option Addr} {l : List (Int × Int)} (h : FactsAt w B A l) (hb : Below B w w') {k : Nat} (hk : k < l.length) : ∃ b off, A = some ⟨b, off, none⟩ ∧ b < B ∧ w'.cell? ⟨b, off + k * 2, none⟩ = some (.int .i64 (fv l k)) ∧ w'.cell? ⟨b, off + k * 2 + 1, none⟩ = some (.int .i64 (fx l k)) := by
  obtain ⟨b, o, e, hlt, hc⟩ := h.at_ hk
  exact ⟨b, o, e, hlt, (hb.cell hlt).trans (hc k hk).1, (hb.cell hlt).trans (hc k hk).2⟩
/-- Numbers of 64 bits. -/
def Ints64 (l : List Int) : Prop := ∀ j, j < l.length → -9223372036854775808 ≤ nth l j ∧ nth l j ≤ 9223372036854775807

set_option maxHeartbeats 1000000 in
theorem pnums_any (l : List Int) (A : Option Addr) (c : Nat) (w : World) (hi : IntsAt w w.heap.size A l) (hn : l.length ≤ 4096) (h64 : Ints64 l) (hE : EnvT w) :
    Calls Tryd.prog 15 #[.slice A l.length c] w fun e w' => e = .returned (.string (bs (nuL l l.length))) ∧ Below w.heap.size w w' := by
  have H64 := Lib.hid h64
  have HE := Lib.hid hE
  clear h64 hE
  go_enter Tryd.func15, Tryd.ntmps15
  go_wp2
  go_loopw [3, 8] (fun sv i wr => ∃ (k : Nat) (b : ByteArray), k ≤ l.length ∧ b = bs (nuL l k) ∧ sv = .string b ∧ i = .int .i64 k ∧ Below w.heap.size w wr) (fun _ i _ => l.length - (intOf i).toNat)
  case atStart => exact ⟨0, _, by omega, rfl, rfl, rfl, by repeat (first | exact Below.refl _ _ | refine below_dN ?_ _ | refine Below.drew ?_ | refine Below.alloc ?_ (by first | omega | (simp; done) | (simp; omega)) _ | refine Below.setCell ?_ (by first | omega | (simp; done) | (simp; omega)) _ | refine below_step (by assumption) (by first | omega | (simp; done) | (simp; omega)) ?_)⟩
  case round =>
    obtain ⟨k, b, hk, hb, rfl, rfl, hbel⟩ := hrel
    have hsz : b.size ≤ 4096 * 22 := by
      have h1 := nuL_len H64.out k hk
      have h2 : k * 22 ≤ 4096 * 22 := Nat.mul_le_mul_right _ (by omega)
      rw [hb, bs_size]; omega
    have HB := Lib.hid hb
    clear hb
    have hbz := hbel.size
    by_cases hlt : k < l.length
    · obtain ⟨v, o, rfl, hvB, hc⟩ := ints_in hi hbel hlt
      have hN := H64.out k hlt
      have s1 := itB_size (nth l k) hN.1 hN.2
      go_wp2_with fail; refine (itoa_any (nth l k) _ hN.1 hN.2 (HE.out.up (by repeat (first | exact Below.refl _ _ | refine below_dN ?_ _ | refine Below.drew ?_ | refine Below.alloc ?_ (by first | omega | (simp; done) | (simp; omega)) _ | refine Below.setCell ?_ (by first | omega | (simp; done) | (simp; omega)) _ | refine below_step (by assumption) (by first | omega | (simp; done) | (simp; omega)) ?_)))).mono ?_; rintro e w1 ⟨rfl, hb1⟩; obtain ⟨hc1, hf1, hz1, hlt1, hle1⟩ := cellsIf hb1 (by (try simp); exact rfl); (try have : w.heap.size < w1.heap.size := (by omega)); (try have : w.heap.size < w1.heap.size + 1 := (by omega)); (try have : w.heap.size < w1.heap.size + 1 + 1 := (by omega)); (try have : w.heap.size + 1 < w1.heap.size := (by omega)); (try have : w.heap.size + 1 < w1.heap.size + 1 := (by omega)); (try have : w.heap.size + 1 < w1.heap.size + 1 + 1 := (by omega)); (try have : w.heap.size + 1 + 1 < w1.heap.size := (by omega)); (try have : w.heap.size + 1 + 1 < w1.heap.size + 1 := (by omega)); (try have : w.heap.size + 1 + 1 < w1.heap.size + 1 + 1 := (by omega))
      go_wp2
      go_roundw
      case rel => exact ⟨k + 1, _, by omega, (by rw [HB.out]; exact nu_cat hlt), rfl, by go_num, by repeat (first | exact Below.refl _ _ | refine below_dN ?_ _ | refine Below.drew ?_ | refine Below.alloc ?_ (by first | omega | (simp; done) | (simp; omega)) _ | refine Below.setCell ?_ (by first | omega | (simp; done) | (simp; omega)) _ | refine below_step (by assumption) (by first | omega | (simp; done) | (simp; omega)) ?_)⟩
      case measure => simp [intOf]; omega
    · go_wp2
      go_ret
      refine ⟨congrArg (fun b => Ending.returned (.string b)) (?_ : b = _), by repeat (first | exact Below.refl _ _ | refine below_dN ?_ _ | refine Below.drew ?_ | refine Below.alloc ?_ (by first | omega | (simp; done) | (simp; omega)) _ | refine Below.setCell ?_ (by first | omega | (simp; done) | (simp; omega)) _ | refine below_step (by assumption) (by first | omega | (simp; done) | (simp; omega)) ?_)⟩
      rw [HB.out, show k = l.length by omega]

set_option maxHeartbeats 1000000 in
theorem pfacts_any (f : List (Int × Int)) (A : Option Addr) (c : Nat) (w : World) (hi : FactsAt w w.heap.size A f) (hn : f.length ≤ 4096) (hF : FacIn f) (hE : EnvT w) :
    Calls Tryd.prog 16 #[.slice A f.length c] w fun e w' => e = .returned (.string (bs (faL f f.length))) ∧ Below w.heap.size w w' := by
  have H64 := Lib.hid hF
  have HE := Lib.hid hE
  clear hF hE
  go_enter Tryd.func16, Tryd.ntmps16
  go_wp2
  go_loopw [3, 8] (fun sv i wr => ∃ (k : Nat) (b : ByteArray), k ≤ f.length ∧ b = bs (faL f k) ∧ sv = .string b ∧ i = .int .i64 k ∧ Below w.heap.size w wr) (fun _ i _ => f.length - (intOf i).toNat)
  case atStart => exact ⟨0, _, by omega, rfl, rfl, rfl, by repeat (first | exact Below.refl _ _ | refine below_dN ?_ _ | refine Below.drew ?_ | refine Below.alloc ?_ (by first | omega | (simp; done) | (simp; omega)) _ | refine Below.setCell ?_ (by first | omega | (simp; done) | (simp; omega)) _ | refine below_step (by assumption) (by first | omega | (simp; done) | (simp; omega)) ?_)⟩
  case round =>
    obtain ⟨k, b, hk, hb, rfl, rfl, hbel⟩ := hrel
    have hsz : b.size ≤ 4096 * 44 := by
      have h1 := faL_len H64.out k hk
      have h2 : k * 44 ≤ 4096 * 44 := Nat.mul_le_mul_right _ (by omega)
      rw [hb, bs_size]; omega
    have HB := Lib.hid hb
    clear hb
    have hbz := hbel.size
    by_cases hlt : k < f.length
    · obtain ⟨v, o, rfl, hvB, hc0, hc1⟩ := facs_in hi hbel hlt
      obtain ⟨⟨n0, n1⟩, n2, n3⟩ := H64.out k hlt
      have s1 := itB_size (fv f k) (by omega) (by omega)
      have s2 := itB_size (fx f k) (by omega) (by omega)
      go_upto_region 5 with fail
      have HEr := Lib.hid (HE.out.up hbel)
      refine wp_region_aft (by kernel_rfl) (by kernel_rfl) (by (try simp); exact rfl) ?_; intro haft; (repeat (go_big_quiet_step ((go_at_call 17; exact aft_of (itoa_any _ _ (by omega) (by omega) (HEr.out.up (below_step (Aft.below _) (by first | omega | (simp; done) | (simp; omega)) (by repeat (first | exact Below.refl _ _ | refine below_dN ?_ _ | refine Below.drew ?_ | refine Below.alloc ?_ (by first | omega | (simp; done) | (simp; omega)) _ | refine Below.setCell ?_ (by first | omega | (simp; done) | (simp; omega)) _ | refine below_step (by assumption) (by first | omega | (simp; done) | (simp; omega)) ?_))))))))); refine wpQuiet_nil ?_; intro w2 hwx; have hb2 := aft_below hwx; clear hwx; obtain ⟨hc2, hf2, hz2, hlt2, hle2⟩ := cellsIf hb2 (by (try simp); exact rfl); (try have : w.heap.size < w2.heap.size := (by omega)); (try have : w.heap.size < w2.heap.size + 1 := (by omega)); (try have : w.heap.size < w2.heap.size + 1 + 1 := (by omega)); (try have : w.heap.size + 1 < w2.heap.size := (by omega)); (try have : w.heap.size + 1 < w2.heap.size + 1 := (by omega)); (try have : w.heap.size + 1 < w2.heap.size + 1 + 1 := (by omega)); (try have : w.heap.size + 1 + 1 < w2.heap.size := (by omega)); (try have : w.heap.size + 1 + 1 < w2.heap.size + 1 := (by omega)); (try have : w.heap.size + 1 + 1 < w2.heap.size + 1 + 1 := (by omega)); (try have : w1.heap.size < w2.heap.size := (by omega)); (try have : w1.heap.size < w2.heap.size + 1 := (by omega)); (try have : w1.heap.size < w2.heap.size + 1 + 1 := (by omega)); (try have : w1.heap.size + 1 < w2.heap.size := (by omega)); (try have : w1.heap.size + 1 < w2.heap.size + 1 := (by omega)); (try have : w1.heap.size + 1 < w2.heap.size + 1 + 1 := (by omega)); (try have : w1.heap.size + 1 + 1 < w2.heap.size := (by omega)); (try have : w1.heap.size + 1 + 1 < w2.heap.size + 1 := (by omega)); (try have : w1.heap.size + 1 + 1 < w2.heap.size + 1 + 1 := (by omega)); clear haft
      go_wp2
      go_roundw
      case rel => exact ⟨k + 1, _, by omega, (by rw [HB.out]; exact fa_cat hlt), rfl, by go_num, by repeat (first | exact Below.refl _ _ | refine below_dN ?_ _ | refine Below.drew ?_ | refine Below.alloc ?_ (by first | omega | (simp; done) | (simp; omega)) _ | refine Below.setCell ?_ (by first | omega | (simp; done) | (simp; omega)) _ | refine below_step (by assumption) (by first | omega | (simp; done) | (simp; omega)) ?_)⟩
      case measure => simp [intOf]; omega
    · go_wp2
      go_ret
      refine ⟨congrArg (fun b => Ending.returned (.string b)) (?_ : b = _), by repeat (first | exact Below.refl _ _ | refine below_dN ?_ _ | refine Below.drew ?_ | refine Below.alloc ?_ (by first | omega | (simp; done) | (simp; omega)) _ | refine Below.setCell ?_ (by first | omega | (simp; done) | (simp; omega)) _ | refine below_step (by assumption) (by first | omega | (simp; done) | (simp; omega)) ?_)⟩
      rw [HB.out, show k = f.length by omega]

end Go.Proofs.YtkeelkpmajmjmaaDoor

/- Texts of tasks: numbers and facts, the reference's. -/
import Derived.Test.YtkeelkpmajmjmaaDoorTfM
import Derived.Test.YtkeelkpmajmjmaaDoorRegA
namespace Go.Proofs.YtkeelkpmajmjmaaDoor
set_option linter.unusedSimpArgs false
set_option linter.unusedVariables false
open Go Go.RowKit
open Go.Lib (decDigits itoa decDigits_one)
set_option linter.unusedVariables false

/-- One byte as a string. -/
def tdB (c : Int) : ByteArray := ⟨#[UInt8.ofNat c.toNat]⟩
theorem tconv (W : World) (b : Nat) (c : Int) (h0 : 0 ≤ c) (h1 : c < 256) (h : W.cell? ⟨b, 0, none⟩ = some (.int .u8 c)) :
    (convert 49 9 (.slice (some ⟨b, 0, none⟩) 1 1)).run Tryd.prog W = .ok (.string (tdB c)) W :=
  run_convert_bytes_back (P := Tryd.prog) W 49 9 5 ⟨b, 0, none⟩ 1 [UInt8.ofNat c.toNat] Tryd.underlying49 Tryd.underlying5 Tryd.underlying9 (fun j hj => by
    have : j = 0 := by simp at hj; omega
    subst this
    have e : (UInt8.ofNat c.toNat).toNat = c.toNat := by rw [UInt8.toNat_ofNat']; omega
    show W.cell? ⟨b, 0, none⟩ = _
    simp only [List.getElem_cons_zero, e]
    rw [show ((c.toNat : Nat) : Int) = c by omega]
    exact h)
theorem itB_small {n : Int} (h0 : 0 ≤ n) (h : n < 10) : tdB (48 + n) = itB n := by
  apply ByteArray.ext
  apply Array.toList_inj.1
  show [UInt8.ofNat (48 + n).toNat] = itoa n
  unfold itoa
  rw [if_neg (by omega), decDigits_one (by omega), show (48 + n).toNat = 48 + n.toNat by omega]
theorem itB_big {n : Int} (h : ¬ n < 10) : itB (n / 10) ++ tdB (48 + n % 10) = itB n := by
  apply ByteArray.ext
  apply Array.toList_inj.1
  rw [ByteArray.data_append, Array.toList_append]
  show itoa (n / 10) ++ [UInt8.ofNat (48 + n % 10).toNat] = itoa n
  unfold itoa
  rw [if_neg (by omega), if_neg (by omega), dec_big (u := n.toNat) (by omega), show (n / 10).toNat = n.toNat / 10 by omega, show (48 + n % 10).toNat = 48 + n.toNat % 10 by omega]

set_option maxHeartbeats 2000000 in
theorem tnum_any : ∀ (m : Nat) (n : Int) (w : World), n.toNat ≤ m → 0 ≤ n → n ≤ 1099511627776 →
    Calls Tryd.prog 26 #[.int .i64 n] w fun e w' => e = .returned (.string (itB n)) ∧ Below w.heap.size w w' := by
  intro m
  induction m with
  | zero =>
    intro n w hm h0 h1
    obtain rfl : n = 0 := by omega
    have hcv := fun (W : World) (b : Nat) h => tconv W b 48 (by omega) (by omega) h
    have e := itB_small (n := 0) (by omega) (by omega)
    go_enter Tryd.func26, Tryd.ntmps26
    go_wp2
    go_ret
    refine ⟨congrArg (fun b => Ending.returned (.string b)) e, by repeat (first | exact Below.refl _ _ | refine below_dN ?_ _ | refine Below.drew ?_ | refine Below.alloc ?_ (by first | omega | (simp; done) | (simp; omega)) _ | refine Below.setCell ?_ (by first | omega | (simp; done) | (simp; omega)) _ | refine below_step (by assumption) (by first | omega | (simp; done) | (simp; omega)) ?_)⟩
  | succ m ih =>
    intro n w hm h0 h1
    by_cases hs : n < 10
    · have e := itB_small h0 hs
      have p1 : decide (n < 10) = true := decide_eq_true hs
      have hcv := fun (W : World) (b : Nat) h => tconv W b (48 + n) (by omega) (by omega) h
      go_enter Tryd.func26, Tryd.ntmps26
      go_wp2
      go_ret
      refine ⟨rfl, by repeat (first | exact Below.refl _ _ | refine below_dN ?_ _ | refine Below.drew ?_ | refine Below.alloc ?_ (by first | omega | (simp; done) | (simp; omega)) _ | refine Below.setCell ?_ (by first | omega | (simp; done) | (simp; omega)) _ | refine below_step (by assumption) (by first | omega | (simp; done) | (simp; omega)) ?_)⟩
    · have HE := Lib.hid (itB_big hs)
      have p1 : decide (n < 10) = false := decide_eq_false hs
      have KI := Lib.hid fun W => ih (n / 10) W (by omega) (by omega) (by omega)
      have s1 := itB_size (n / 10) (by omega) (by omega)
      have s2 : (tdB (48 + n % 10)).size ≤ 1 := Nat.le_refl 1
      have q0 : n.tdiv 10 = n / 10 := Int.tdiv_eq_ediv_of_nonneg h0
      have q1 : n.tmod 10 = n % 10 := Int.tmod_eq_emod_of_nonneg h0
      have q2 : IntKind.i64.wrap (n / 10) = n / 10 := IntWalk.i64_in _ (by omega)
      have q3 : IntKind.i64.wrap (48 + n % 10) = 48 + n % 10 := IntWalk.i64_in _ (by omega)
      have q4 : IntKind.u8.wrap (48 + n % 10) = 48 + n % 10 := IntWalk.u8_in _ (by omega)
      have tc := fun (W : World) (b : Nat) h => tconv W b (48 + n % 10) (by omega) (by omega) h
      clear ih hm
      go_enter Tryd.func26, Tryd.ntmps26
      go_wp2
      refine wp_region_G 2 (fun _ => True) (by kernel_rfl) (trivial) ?_
      intro hG0
      refine wpS1 0 hG0 ?_; intro hG1; clear hG0
      refine wpS1 1 hG1 ?_; intro hG2; clear hG1
      refine wpS1 3 hG2 ?_; intro hG3; clear hG2
      refine wpS1 4 hG3 ?_; intro hG4; clear hG3
      refine wpS1 5 hG4 ?_; intro hG5; clear hG4
      refine wpS1 6 hG5 ?_; intro hG6; clear hG5
      refine wpAnyG_ready (rs := [2, 7]) (by kernel_rfl) (by simp) (AllG.cons rfl hG6 (fun K hK => ?_) (AllG.cons rfl hG6 (fun K hK => ?_) AllG.nil))
      (go_simp; go_at_call 26; (try simp only [q0, q1, q2, q3, q4]); refine (KI.out _).mono ?_; rintro e w1 ⟨rfl, hb1⟩; have z1 : w.heap.size ≤ w1.heap.size := (by have z0 := hb1.size; simp at z0; omega))
      refine hK.out _ _ (Or.inl rfl) (fun hG7 => wpN ?_); clear hK hG6
      refine wpAnyG_ready (rs := [7]) (by kernel_rfl) (by simp) (AllG.cons rfl hG7 (fun K hK => ?_) AllG.nil)
      (go_simp; (try simp only [q0, q1, q2, q3, q4]))
      refine hK.out _ _ (Or.inl rfl) (fun hG8 => wpN ?_); clear hK hG7
      refine wpAnyG_ready (rs := [8]) (by kernel_rfl) (by simp) (AllG.cons rfl hG8 (fun K hK => ?_) AllG.nil)
      (go_simp)
      refine hK.out _ _ (Or.inl rfl) (fun hG9 => wpN ?_); clear hK hG8
      refine wpS1 9 hG9 ?_; intro hG10; clear hG9
      refine wpS1 10 hG10 ?_; intro hG11; clear hG10
      refine wpAnyG_done (by kernel_rfl) ?_ _; clear hG11
      rotate_left
      (go_simp; (try simp only [q0, q1, q2, q3, q4]))
      refine hK.out _ _ (Or.inr trivial) (fun hG7 => wpN ?_); clear hK hG6
      refine wpAnyG_ready (rs := [2, 8]) (by kernel_rfl) (by simp) (AllG.cons rfl hG7 (fun K hK => ?_) (AllG.cons rfl hG7 (fun K hK => ?_) AllG.nil))
      (go_simp; go_at_call 26; (try simp only [q0, q1, q2, q3, q4]); refine (KI.out _).mono ?_; rintro e w1 ⟨rfl, hb1⟩; have z1 : w.heap.size ≤ w1.heap.size := (by have z0 := hb1.size; simp at z0; omega))
      refine hK.out _ _ (Or.inl rfl) (fun hG8 => wpN ?_); clear hK hG7
      refine wpAnyG_ready (rs := [8]) (by kernel_rfl) (by simp) (AllG.cons rfl hG8 (fun K hK => ?_) AllG.nil)
      (have hcy := tc w1 w.heap.size ((hb1.cell (by simp)).trans (by simp)); go_simp)
      refine hK.out _ _ (Or.inl rfl) (fun hG9 => wpN ?_); clear hK hG8
      refine wpS1 9 hG9 ?_; intro hG10; clear hG9
      refine wpS1 10 hG10 ?_; intro hG11; clear hG10
      refine wpAnyG_done (by kernel_rfl) ?_ _; clear hG11
      rotate_left
      (go_simp)
      refine hK.out _ _ (Or.inr trivial) (fun hG8 => wpN ?_); clear hK hG7
      refine wpAnyG_ready (rs := [2]) (by kernel_rfl) (by simp) (AllG.cons rfl hG8 (fun K hK => ?_) AllG.nil)
      (go_simp; go_at_call 26; (try simp only [q0, q1, q2, q3, q4]); refine (KI.out _).mono ?_; rintro e w1 ⟨rfl, hb1⟩; have z1 : w.heap.size ≤ w1.heap.size := (by have z0 := hb1.size; simp at z0; omega))
      refine hK.out _ _ (Or.inl rfl) (fun hG9 => wpN ?_); clear hK hG8
      refine wpS1 9 hG9 ?_; intro hG10; clear hG9
      refine wpS1 10 hG10 ?_; intro hG11; clear hG10
      refine wpAnyG_done (by kernel_rfl) ?_ _; clear hG11
      rotate_left
      all_goals (go_wp2; go_ret; refine ⟨congrArg (fun b => Ending.returned (.string b)) HE.out, by repeat (first | exact Below.refl _ _ | refine below_dN ?_ _ | refine Below.drew ?_ | refine Below.alloc ?_ (by first | omega | (simp; done) | (simp; omega)) _ | refine Below.setCell ?_ (by first | omega | (simp; done) | (simp; omega)) _ | refine below_step (by assumption) (by first | omega | (simp; done) | (simp; omega)) ?_)⟩)

theorem rnumber_any (n : Int) (w : World) (h0 : 0 ≤ n) (h1 : n ≤ 1099511627776) :
    Calls Tryd.prog 26 #[.int .i64 n] w fun e w' => e = .returned (.string (itB n)) ∧ Below w.heap.size w w' := tnum_any _ n w (Nat.le_refl _) h0 h1

set_option maxHeartbeats 1000000 in
theorem rfact_any (x y : Int) (w : World) (h0 : 0 ≤ x) (h1 : x ≤ 1099511627776) (h2 : 0 ≤ y) (h3 : y ≤ 1099511627776) :
    Calls Tryd.prog 27 #[.agg #[.int .i64 x, .int .i64 y]] w fun e w' => e = .returned (.string (bs (fxL (x, y)))) ∧ Below w.heap.size w w' := by
  have s1 := itB_size x (by omega) (by omega)
  have s2 := itB_size y (by omega) (by omega)
  go_enter Tryd.func27, Tryd.ntmps27
  go_upto_region 1 with fail
  refine wp_region_aft (by kernel_rfl) (by kernel_rfl) (by (try simp); exact rfl) ?_; intro haft; (repeat (go_big_quiet_step ((go_at_call 26; exact aft_of (rnumber_any _ _ (by omega) (by omega)))))); refine wpQuiet_nil ?_; intro w2 hwx; have hb2 := aft_below hwx; clear hwx; obtain ⟨hc2, hf2, hz2, hlt2, hle2⟩ := cellsIf hb2 (by (try simp); exact rfl); (try have : w.heap.size < w2.heap.size := (by omega)); (try have : w.heap.size < w2.heap.size + 1 := (by omega)); (try have : w.heap.size < w2.heap.size + 1 + 1 := (by omega)); (try have : w.heap.size + 1 < w2.heap.size := (by omega)); (try have : w.heap.size + 1 < w2.heap.size + 1 := (by omega)); (try have : w.heap.size + 1 < w2.heap.size + 1 + 1 := (by omega)); (try have : w.heap.size + 1 + 1 < w2.heap.size := (by omega)); (try have : w.heap.size + 1 + 1 < w2.heap.size + 1 := (by omega)); (try have : w.heap.size + 1 + 1 < w2.heap.size + 1 + 1 := (by omega)); (try have : w1.heap.size < w2.heap.size := (by omega)); (try have : w1.heap.size < w2.heap.size + 1 := (by omega)); (try have : w1.heap.size < w2.heap.size + 1 + 1 := (by omega)); (try have : w1.heap.size + 1 < w2.heap.size := (by omega)); (try have : w1.heap.size + 1 < w2.heap.size + 1 := (by omega)); (try have : w1.heap.size + 1 < w2.heap.size + 1 + 1 := (by omega)); (try have : w1.heap.size + 1 + 1 < w2.heap.size := (by omega)); (try have : w1.heap.size + 1 + 1 < w2.heap.size + 1 := (by omega)); (try have : w1.heap.size + 1 + 1 < w2.heap.size + 1 + 1 := (by omega)); clear haft
  go_wp2
  go_ret
  refine ⟨congrArg (fun b => Ending.returned (.string b)) (fx_cat x y), by repeat (first | exact Below.refl _ _ | refine below_dN ?_ _ | refine Below.drew ?_ | refine Below.alloc ?_ (by first | omega | (simp; done) | (simp; omega)) _ | refine Below.setCell ?_ (by first | omega | (simp; done) | (simp; omega)) _ | refine below_step (by assumption) (by first | omega | (simp; done) | (simp; omega)) ?_)⟩

theorem rnu_cat {wd : ByteArray} {l : List Int} {k : Nat} (h : k < l.length) : (wd ++ bs (nuL l k)) ++ (⟨#[32]⟩ ++ itB (nth l k)) = wd ++ bs (nuL l (k + 1)) := by
  rw [← nu_cat h, ByteArray.append_assoc]
theorem rfa_cat {wd : ByteArray} {f : List (Int × Int)} {k : Nat} (h : k < f.length) : (wd ++ bs (faL f k)) ++ (⟨#[32]⟩ ++ bs (fxL (fv f k, fx f k))) = wd ++ bs (faL f (k + 1)) := by
  rw [← fa_cat h, ← fx_cat]
  simp only [ByteArray.append_assoc]
theorem bs_nil (b : ByteArray) : b ++ bs [] = b := by
  apply ByteArray.ext
  apply Array.toList_inj.1
  rw [ByteArray.data_append, Array.toList_append]
  simp [bs]
/-- Numbers that Number writes. -/
def Ints40 (l : List Int) : Prop := ∀ j, j < l.length → 0 ≤ nth l j ∧ nth l j ≤ 1099511627776
theorem Ints40.to64 {l : List Int} (h : Ints40 l) : Ints64 l := fun j hj => by have := h j hj; omega

set_option maxHeartbeats 1000000 in
theorem rnums_any (wd : ByteArray) (l : List Int) (A : Option Addr) (c : Nat) (w : World) (hi : IntsAt w w.heap.size A l) (hn : l.length ≤ 4096) (h64 : Ints40 l) (hw : wd.size ≤ 1099511627776) :
    Calls Tryd.prog 24 #[.string wd, .slice A l.length c] w fun e w' => e = .returned (.string (wd ++ bs (nuL l l.length))) ∧ Below w.heap.size w w' := by
  have H64 := Lib.hid h64
  clear h64
  go_enter Tryd.func24, Tryd.ntmps24
  go_wp2
  go_loopw [0, 9] (fun sv i wr => ∃ (k : Nat) (b : ByteArray), k ≤ l.length ∧ b = wd ++ bs (nuL l k) ∧ sv = .string b ∧ i = .int .i64 k ∧ Below w.heap.size w wr) (fun _ i _ => l.length - (intOf i).toNat)
  case atStart => exact ⟨0, _, by omega, (bs_nil wd).symm, rfl, rfl, by repeat (first | exact Below.refl _ _ | refine below_dN ?_ _ | refine Below.drew ?_ | refine Below.alloc ?_ (by first | omega | (simp; done) | (simp; omega)) _ | refine Below.setCell ?_ (by first | omega | (simp; done) | (simp; omega)) _ | refine below_step (by assumption) (by first | omega | (simp; done) | (simp; omega)) ?_)⟩
  case round =>
    obtain ⟨k, b, hk, hb, rfl, rfl, hbel⟩ := hrel
    have hsz : b.size ≤ 1099511627776 + 4096 * 22 := by
      have h1 := nuL_len H64.out.to64 k hk
      have h2 : k * 22 ≤ 4096 * 22 := Nat.mul_le_mul_right _ (by omega)
      rw [hb, ByteArray.size_append, bs_size]; omega
    have HB := Lib.hid hb
    clear hb
    have hbz := hbel.size
    by_cases hlt : k < l.length
    · obtain ⟨v, o, rfl, hvB, hc⟩ := ints_in hi hbel hlt
      have hN := H64.out k hlt
      have s1 := itB_size (nth l k) (by omega) (by omega)
      go_wp2_with fail; refine (rnumber_any (nth l k) _ hN.1 hN.2).mono ?_; rintro e w1 ⟨rfl, hb1⟩; obtain ⟨hc1, hf1, hz1, hlt1, hle1⟩ := cellsIf hb1 (by (try simp); exact rfl); (try have : w.heap.size < w1.heap.size := (by omega)); (try have : w.heap.size < w1.heap.size + 1 := (by omega)); (try have : w.heap.size < w1.heap.size + 1 + 1 := (by omega)); (try have : w.heap.size + 1 < w1.heap.size := (by omega)); (try have : w.heap.size + 1 < w1.heap.size + 1 := (by omega)); (try have : w.heap.size + 1 < w1.heap.size + 1 + 1 := (by omega)); (try have : w.heap.size + 1 + 1 < w1.heap.size := (by omega)); (try have : w.heap.size + 1 + 1 < w1.heap.size + 1 := (by omega)); (try have : w.heap.size + 1 + 1 < w1.heap.size + 1 + 1 := (by omega))
      go_wp2
      go_roundw
      case rel => exact ⟨k + 1, _, by omega, (by rw [HB.out]; exact rnu_cat hlt), rfl, by go_num, by repeat (first | exact Below.refl _ _ | refine below_dN ?_ _ | refine Below.drew ?_ | refine Below.alloc ?_ (by first | omega | (simp; done) | (simp; omega)) _ | refine Below.setCell ?_ (by first | omega | (simp; done) | (simp; omega)) _ | refine below_step (by assumption) (by first | omega | (simp; done) | (simp; omega)) ?_)⟩
      case measure => simp [intOf]; omega
    · go_wp2
      go_ret
      refine ⟨congrArg (fun b => Ending.returned (.string b)) (?_ : b = _), by repeat (first | exact Below.refl _ _ | refine below_dN ?_ _ | refine Below.drew ?_ | refine Below.alloc ?_ (by first | omega | (simp; done) | (simp; omega)) _ | refine Below.setCell ?_ (by first | omega | (simp; done) | (simp; omega)) _ | refine below_step (by assumption) (by first | omega | (simp; done) | (simp; omega)) ?_)⟩
      rw [HB.out, show k = l.length by omega]

set_option maxHeartbeats 1000000 in
theorem rfacts_any (wd : ByteArray) (f : List (Int × Int)) (A : Option Addr) (c : Nat) (w : World) (hi : FactsAt w w.heap.size A f) (hn : f.length ≤ 4096) (hF : FacIn f) (hw : wd.size ≤ 1099511627776) :
    Calls Tryd.prog 25 #[.string wd, .slice A f.length c] w fun e w' => e = .returned (.string (wd ++ bs (faL f f.length))) ∧ Below w.heap.size w w' := by
  have H64 := Lib.hid hF
  clear hF
  go_enter Tryd.func25, Tryd.ntmps25
  go_wp2
  go_loopw [0, 9] (fun sv i wr => ∃ (k : Nat) (b : ByteArray), k ≤ f.length ∧ b = wd ++ bs (faL f k) ∧ sv = .string b ∧ i = .int .i64 k ∧ Below w.heap.size w wr) (fun _ i _ => f.length - (intOf i).toNat)
  case atStart => exact ⟨0, _, by omega, (bs_nil wd).symm, rfl, rfl, by repeat (first | exact Below.refl _ _ | refine below_dN ?_ _ | refine Below.drew ?_ | refine Below.alloc ?_ (by first | omega | (simp; done) | (simp; omega)) _ | refine Below.setCell ?_ (by first | omega | (simp; done) | (simp; omega)) _ | refine below_step (by assumption) (by first | omega | (simp; done) | (simp; omega)) ?_)⟩
  case round =>
    obtain ⟨k, b, hk, hb, rfl, rfl, hbel⟩ := hrel
    have hsz : b.size ≤ 1099511627776 + 4096 * 44 := by
      have h1 := faL_len H64.out k hk
      have h2 : k * 44 ≤ 4096 * 44 := Nat.mul_le_mul_right _ (by omega)
      rw [hb, ByteArray.size_append, bs_size]; omega
    have HB := Lib.hid hb
    clear hb
    have hbz := hbel.size
    by_cases hlt : k < f.length
    · obtain ⟨v, o, rfl, hvB, hc0, hc1⟩ := facs_in hi hbel hlt
      obtain ⟨⟨n0, n1⟩, n2, n3⟩ := H64.out k hlt
      have s1 : (bs (fxL (fv f k, fx f k))).size ≤ 43 := by rw [bs_size]; exact fxL_len (by omega) (by omega) (by omega) (by omega)
      go_wp2_with fail; refine (rfact_any (fv f k) (fx f k) _ n0 (by omega) n2 (by omega)).mono ?_; rintro e w1 ⟨rfl, hb1⟩; obtain ⟨hc1, hf1, hz1, hlt1, hle1⟩ := cellsIf hb1 (by (try simp); exact rfl); (try have : w.heap.size < w1.heap.size := (by omega)); (try have : w.heap.size < w1.heap.size + 1 := (by omega)); (try have : w.heap.size < w1.heap.size + 1 + 1 := (by omega)); (try have : w.heap.size + 1 < w1.heap.size := (by omega)); (try have : w.heap.size + 1 < w1.heap.size + 1 := (by omega)); (try have : w.heap.size + 1 < w1.heap.size + 1 + 1 := (by omega)); (try have : w.heap.size + 1 + 1 < w1.heap.size := (by omega)); (try have : w.heap.size + 1 + 1 < w1.heap.size + 1 := (by omega)); (try have : w.heap.size + 1 + 1 < w1.heap.size + 1 + 1 := (by omega))
      go_wp2
      go_roundw
      case rel => exact ⟨k + 1, _, by omega, (by rw [HB.out]; exact rfa_cat hlt), rfl, by go_num, by repeat (first | exact Below.refl _ _ | refine below_dN ?_ _ | refine Below.drew ?_ | refine Below.alloc ?_ (by first | omega | (simp; done) | (simp; omega)) _ | refine Below.setCell ?_ (by first | omega | (simp; done) | (simp; omega)) _ | refine below_step (by assumption) (by first | omega | (simp; done) | (simp; omega)) ?_)⟩
      case measure => simp [intOf]; omega
    · go_wp2
      go_ret
      refine ⟨congrArg (fun b => Ending.returned (.string b)) (?_ : b = _), by repeat (first | exact Below.refl _ _ | refine below_dN ?_ _ | refine Below.drew ?_ | refine Below.alloc ?_ (by first | omega | (simp; done) | (simp; omega)) _ | refine Below.setCell ?_ (by first | omega | (simp; done) | (simp; omega)) _ | refine below_step (by assumption) (by first | omega | (simp; done) | (simp; omega)) ?_)⟩
      rw [HB.out, show k = f.length by omega]

end Go.Proofs.YtkeelkpmajmjmaaDoor

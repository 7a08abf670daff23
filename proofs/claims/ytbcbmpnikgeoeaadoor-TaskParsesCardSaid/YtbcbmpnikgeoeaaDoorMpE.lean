/- Texts laid together: TfM, TfN, TfB. -/
import Derived.Test.YtbcbmpnikgeoeaaDoorMpC
import Derived.Test.YtbcbmpnikgeoeaaDoorMpD
import Derived.Test.YtbcbmpnikgeoeaaDoorMpA
import Derived.LoopTactic
import Derived.Test.YtbcbmpnikgeoeaaDoorMpB
import Derived.Lib.OthersKept
namespace Go.Proofs.YtbcbmpnikgeoeaaDoor
set_option linter.unusedSimpArgs false
set_option linter.unusedVariables false
section
open Go Go.RowKit
open Go.Lib (decDigits itoa decDigits_one)
set_option linter.unusedVariables false

theorem itB_bs (n : Int) : itB n = bs (itoa n) := rfl
theorem nu_cat {l : List Int} {k : Nat} (h : k < l.length) : bs (nuL l k) ++ (⟨#[32]⟩ ++ itB (nth l k)) = bs (nuL l (k + 1)) := by
  rw [nuL_succ h, itB_bs, show (⟨#[32]⟩ : ByteArray) = bs [32] from rfl, bs_app, bs_app]
  rfl
theorem fx_cat (x y : Int) : itB x ++ ⟨#[61]⟩ ++ itB y = bs (fxL (x, y)) := by
  rw [itB_bs, itB_bs, show (⟨#[61]⟩ : ByteArray) = bs [61] from rfl, bs_app, bs_app]
  unfold fxL
  rw [List.append_assoc]
  rfl
theorem fa_cat {f : List (Int × Int)} {k : Nat} (h : k < f.length) : bs (faL f k) ++ (⟨#[32]⟩ ++ itB (fv f k) ++ ⟨#[61]⟩ ++ itB (fx f k)) = bs (faL f (k + 1)) := by
  rw [faL_succ h, itB_bs, itB_bs, show (⟨#[32]⟩ : ByteArray) = bs [32] from rfl, show (⟨#[61]⟩ : ByteArray) = bs [61] from rfl, bs_app, bs_app, bs_app, bs_app]
  unfold fxL
  simp
theorem ints_in {w w' : World} {B : Nat} {A : Option Addr} {l : List Int} (h : IntsAt w B A l) (hb : Below B w w') {k : Nat} (hk : k < l.length) : ∃ b off, A = some ⟨b, off, none⟩ ∧ b < B ∧ w'.cell? ⟨b, off + k, none⟩ = some (.int .i64 (nth l k)) := by
  obtain ⟨b, o, e, hlt, hc⟩ := h.at_ hk
  exact ⟨b, o, e, hlt, (hb.cell hlt).trans (hc k hk)⟩
theorem facs_in {w w' : World} {B : Nat} {A : Option Addr} {l : List (Int × Int)} (h : FactsAt w B A l) (hb : Below B w w') {k : Nat} (hk : k < l.length) : ∃ b off, A = some ⟨b, off, none⟩ ∧ b < B ∧ w'.cell? ⟨b, off + k * 2, none⟩ = some (.int .i64 (fv l k)) ∧ w'.cell? ⟨b, off + k * 2 + 1, none⟩ = some (.int .i64 (fx l k)) := by
  obtain ⟨b, o, e, hlt, hc⟩ := h.at_ hk
  exact ⟨b, o, e, hlt, (hb.cell hlt).trans (hc k hk).1, (hb.cell hlt).trans (hc k hk).2⟩
/-- Numbers of 64 bits. -/
def Ints64 (l : List Int) : Prop := ∀ j, j < l.length → -9223372036854775808 ≤ nth l j ∧ nth l j ≤ 9223372036854775807

set_option maxHeartbeats 1000000 in
theorem pnums_any (l : List Int) (A : Option Addr) (c : Nat) (w : World) (hi : IntsAt w w.heap.size A l) (hn : l.length ≤ 4096) (h64 : Ints64 l) (hE : EnvT w) :
    Calls Tryd.prog 29 #[.slice A l.length c] w fun e w' => e = .returned (.string (bs (nuL l l.length))) ∧ Below w.heap.size w w' := by
  have H64 := Lib.hid h64
  have HE := Lib.hid hE
  clear h64 hE
  go_enter Tryd.func29, Tryd.ntmps29
  go_wp2
  go_loopw [3, 8] (fun sv i wr => ∃ (k : Nat) (b : ByteArray), k ≤ l.length ∧ b = bs (nuL l k) ∧ sv = .string b ∧ i = .int .i64 k ∧ Below w.heap.size w wr) (fun _ i _ => l.length - (intOf i).toNat)
  case atStart => exact ⟨0, _, by omega, rfl, rfl, rfl, by repeat (first | exact Below.refl _ _ | refine below_dN ?_ _ | refine Below.drew ?_ | refine Below.alloc ?_ (by first | omega | (simp; done) | (simp; omega)) _ | refine Below.setCell ?_ (by first | omega | (simp; done) | (simp; omega)) _ | refine below_step (by assumption) (by first | omega | (simp; done) | (simp; omega)) ?_)⟩
  case round =>
    obtain ⟨k, b, hk, hb, rfl, rfl, hbel⟩ := hrel
    have hsz : b.size ≤ 4096 * 22 := by
      have h1 := nuL_len H64.out k hk
      have h2 : k * 22 ≤ 4096 * 22 := Nat.mul_le_mul_right _ (by omega)
      rw [hb, bs_size]; omega
    have HB := Lib.hid hb
    clear hb
    have hbz := hbel.size
    by_cases hlt : k < l.length
    · obtain ⟨v, o, rfl, hvB, hc⟩ := ints_in hi hbel hlt
      have hN := H64.out k hlt
      have s1 := itB_size (nth l k) hN.1 hN.2
      go_wp2_with fail; refine (itoa_any (nth l k) _ hN.1 hN.2 (HE.out.up (by repeat (first | exact Below.refl _ _ | refine below_dN ?_ _ | refine Below.drew ?_ | refine Below.alloc ?_ (by first | omega | (simp; done) | (simp; omega)) _ | refine Below.setCell ?_ (by first | omega | (simp; done) | (simp; omega)) _ | refine below_step (by assumption) (by first | omega | (simp; done) | (simp; omega)) ?_)))).mono ?_; rintro e w1 ⟨rfl, hb1⟩; obtain ⟨hc1, hf1, hz1, hlt1, hle1⟩ := cellsIf hb1 (by (try simp); exact rfl); (try have : w.heap.size < w1.heap.size := (by omega)); (try have : w.heap.size < w1.heap.size + 1 := (by omega)); (try have : w.heap.size < w1.heap.size + 1 + 1 := (by omega)); (try have : w.heap.size + 1 < w1.heap.size := (by omega)); (try have : w.heap.size + 1 < w1.heap.size + 1 := (by omega)); (try have : w.heap.size + 1 < w1.heap.size + 1 + 1 := (by omega)); (try have : w.heap.size + 1 + 1 < w1.heap.size := (by omega)); (try have : w.heap.size + 1 + 1 < w1.heap.size + 1 := (by omega)); (try have : w.heap.size + 1 + 1 < w1.heap.size + 1 + 1 := (by omega))
      go_wp2
      go_roundw
      case rel => exact ⟨k + 1, _, by omega, (by rw [HB.out]; exact nu_cat hlt), rfl, by go_num, by repeat (first | exact Below.refl _ _ | refine below_dN ?_ _ | refine Below.drew ?_ | refine Below.alloc ?_ (by first | omega | (simp; done) | (simp; omega)) _ | refine Below.setCell ?_ (by first | omega | (simp; done) | (simp; omega)) _ | refine below_step (by assumption) (by first | omega | (simp; done) | (simp; omega)) ?_)⟩
      case measure => simp [intOf]; omega
    · go_wp2
      go_ret
      refine ⟨congrArg (fun b => Ending.returned (.string b)) (?_ : b = _), by repeat (first | exact Below.refl _ _ | refine below_dN ?_ _ | refine Below.drew ?_ | refine Below.alloc ?_ (by first | omega | (simp; done) | (simp; omega)) _ | refine Below.setCell ?_ (by first | omega | (simp; done) | (simp; omega)) _ | refine below_step (by assumption) (by first | omega | (simp; done) | (simp; omega)) ?_)⟩
      rw [HB.out, show k = l.length by omega]

set_option maxHeartbeats 1000000 in
theorem pfacts_any (f : List (Int × Int)) (A : Option Addr) (c : Nat) (w : World) (hi : FactsAt w w.heap.size A f) (hn : f.length ≤ 4096) (hF : FacIn f) (hE : EnvT w) :
    Calls Tryd.prog 30 #[.slice A f.length c] w fun e w' => e = .returned (.string (bs (faL f f.length))) ∧ Below w.heap.size w w' := by
  have H64 := Lib.hid hF
  have HE := Lib.hid hE
  clear hF hE
  go_enter Tryd.func30, Tryd.ntmps30
  go_wp2
  go_loopw [3, 8] (fun sv i wr => ∃ (k : Nat) (b : ByteArray), k ≤ f.length ∧ b = bs (faL f k) ∧ sv = .string b ∧ i = .int .i64 k ∧ Below w.heap.size w wr) (fun _ i _ => f.length - (intOf i).toNat)
  case atStart => exact ⟨0, _, by omega, rfl, rfl, rfl, by repeat (first | exact Below.refl _ _ | refine below_dN ?_ _ | refine Below.drew ?_ | refine Below.alloc ?_ (by first | omega | (simp; done) | (simp; omega)) _ | refine Below.setCell ?_ (by first | omega | (simp; done) | (simp; omega)) _ | refine below_step (by assumption) (by first | omega | (simp; done) | (simp; omega)) ?_)⟩
  case round =>
    obtain ⟨k, b, hk, hb, rfl, rfl, hbel⟩ := hrel
    have hsz : b.size ≤ 4096 * 44 := by
      have h1 := faL_len H64.out k hk
      have h2 : k * 44 ≤ 4096 * 44 := Nat.mul_le_mul_right _ (by omega)
      rw [hb, bs_size]; omega
    have HB := Lib.hid hb
    clear hb
    have hbz := hbel.size
    by_cases hlt : k < f.length
    · obtain ⟨v, o, rfl, hvB, hc0, hc1⟩ := facs_in hi hbel hlt
      obtain ⟨⟨n0, n1⟩, n2, n3⟩ := H64.out k hlt
      have s1 := itB_size (fv f k) (by omega) (by omega)
      have s2 := itB_size (fx f k) (by omega) (by omega)
      go_upto_region 5 with fail
      have HEr := Lib.hid (HE.out.up hbel)
      refine wp_region_aft (by kernel_rfl) (by kernel_rfl) (by (try simp); exact rfl) ?_; intro haft; (repeat (go_big_quiet_step ((go_at_call 31; exact aft_of (itoa_any _ _ (by omega) (by omega) (HEr.out.up (below_step (Aft.below _) (by first | omega | (simp; done) | (simp; omega)) (by repeat (first | exact Below.refl _ _ | refine below_dN ?_ _ | refine Below.drew ?_ | refine Below.alloc ?_ (by first | omega | (simp; done) | (simp; omega)) _ | refine Below.setCell ?_ (by first | omega | (simp; done) | (simp; omega)) _ | refine below_step (by assumption) (by first | omega | (simp; done) | (simp; omega)) ?_))))))))); refine wpQuiet_nil ?_; intro w2 hwx; have hb2 := aft_below hwx; clear hwx; obtain ⟨hc2, hf2, hz2, hlt2, hle2⟩ := cellsIf hb2 (by (try simp); exact rfl); (try have : w.heap.size < w2.heap.size := (by omega)); (try have : w.heap.size < w2.heap.size + 1 := (by omega)); (try have : w.heap.size < w2.heap.size + 1 + 1 := (by omega)); (try have : w.heap.size + 1 < w2.heap.size := (by omega)); (try have : w.heap.size + 1 < w2.heap.size + 1 := (by omega)); (try have : w.heap.size + 1 < w2.heap.size + 1 + 1 := (by omega)); (try have : w.heap.size + 1 + 1 < w2.heap.size := (by omega)); (try have : w.heap.size + 1 + 1 < w2.heap.size + 1 := (by omega)); (try have : w.heap.size + 1 + 1 < w2.heap.size + 1 + 1 := (by omega)); (try have : w1.heap.size < w2.heap.size := (by omega)); (try have : w1.heap.size < w2.heap.size + 1 := (by omega)); (try have : w1.heap.size < w2.heap.size + 1 + 1 := (by omega)); (try have : w1.heap.size + 1 < w2.heap.size := (by omega)); (try have : w1.heap.size + 1 < w2.heap.size + 1 := (by omega)); (try have : w1.heap.size + 1 < w2.heap.size + 1 + 1 := (by omega)); (try have : w1.heap.size + 1 + 1 < w2.heap.size := (by omega)); (try have : w1.heap.size + 1 + 1 < w2.heap.size + 1 := (by omega)); (try have : w1.heap.size + 1 + 1 < w2.heap.size + 1 + 1 := (by omega)); clear haft
      go_wp2
      go_roundw
      case rel => exact ⟨k + 1, _, by omega, (by rw [HB.out]; exact fa_cat hlt), rfl, by go_num, by repeat (first | exact Below.refl _ _ | refine below_dN ?_ _ | refine Below.drew ?_ | refine Below.alloc ?_ (by first | omega | (simp; done) | (simp; omega)) _ | refine Below.setCell ?_ (by first | omega | (simp; done) | (simp; omega)) _ | refine below_step (by assumption) (by first | omega | (simp; done) | (simp; omega)) ?_)⟩
      case measure => simp [intOf]; omega
    · go_wp2
      go_ret
      refine ⟨congrArg (fun b => Ending.returned (.string b)) (?_ : b = _), by repeat (first | exact Below.refl _ _ | refine below_dN ?_ _ | refine Below.drew ?_ | refine Below.alloc ?_ (by first | omega | (simp; done) | (simp; omega)) _ | refine Below.setCell ?_ (by first | omega | (simp; done) | (simp; omega)) _ | refine below_step (by assumption) (by first | omega | (simp; done) | (simp; omega)) ?_)⟩
      rw [HB.out, show k = f.length by omega]
end

section
open Go Go.RowKit
open Go.Lib (decDigits itoa decDigits_one)
set_option linter.unusedVariables false

/-- One byte as a string. -/
def tdB (c : Int) : ByteArray := ⟨#[UInt8.ofNat c.toNat]⟩
theorem tconv (W : World) (b : Nat) (c : Int) (h0 : 0 ≤ c) (h1 : c < 256) (h : W.cell? ⟨b, 0, none⟩ = some (.int .u8 c)) :
    (convert 74 9 (.slice (some ⟨b, 0, none⟩) 1 1)).run Tryd.prog W = .ok (.string (tdB c)) W :=
  run_convert_bytes_back (P := Tryd.prog) W 74 9 5 ⟨b, 0, none⟩ 1 [UInt8.ofNat c.toNat] Tryd.underlying74 Tryd.underlying5 Tryd.underlying9 (fun j hj => by
    have : j = 0 := by simp at hj; omega
    subst this
    have e : (UInt8.ofNat c.toNat).toNat = c.toNat := by rw [UInt8.toNat_ofNat']; omega
    show W.cell? ⟨b, 0, none⟩ = _
    simp only [List.getElem_cons_zero, e]
    rw [show ((c.toNat : Nat) : Int) = c by omega]
    exact h)
theorem itB_small {n : Int} (h0 : 0 ≤ n) (h : n < 10) : tdB (48 + n) = itB n := by
  apply ByteArray.ext
  apply Array.toList_inj.1
  show [UInt8.ofNat (48 + n).toNat] = itoa n
  unfold itoa
  rw [if_neg (by omega), decDigits_one (by omega), show (48 + n).toNat = 48 + n.toNat by omega]
theorem itB_big {n : Int} (h : ¬ n < 10) : itB (n / 10) ++ tdB (48 + n % 10) = itB n := by
  apply ByteArray.ext
  apply Array.toList_inj.1
  rw [ByteArray.data_append, Array.toList_append]
  show itoa (n / 10) ++ [UInt8.ofNat (48 + n % 10).toNat] = itoa n
  unfold itoa
  rw [if_neg (by omega), if_neg (by omega), dec_big (u := n.toNat) (by omega), show (n / 10).toNat = n.toNat / 10 by omega, show (48 + n % 10).toNat = 48 + n.toNat % 10 by omega]

theorem rnu_cat {wd : ByteArray} {l : List Int} {k : Nat} (h : k < l.length) : (wd ++ bs (nuL l k)) ++ (⟨#[32]⟩ ++ itB (nth l k)) = wd ++ bs (nuL l (k + 1)) := by
  rw [← nu_cat h, ByteArray.append_assoc]
theorem rfa_cat {wd : ByteArray} {f : List (Int × Int)} {k : Nat} (h : k < f.length) : (wd ++ bs (faL f k)) ++ (⟨#[32]⟩ ++ bs (fxL (fv f k, fx f k))) = wd ++ bs (faL f (k + 1)) := by
  rw [← fa_cat h, ← fx_cat]
  simp only [ByteArray.append_assoc]
theorem bs_nil (b : ByteArray) : b ++ bs [] = b := by
  apply ByteArray.ext
  apply Array.toList_inj.1
  rw [ByteArray.data_append, Array.toList_append]
  simp [bs]
/-- Numbers that Number writes. -/
def Ints40 (l : List Int) : Prop := ∀ j, j < l.length → 0 ≤ nth l j ∧ nth l j ≤ 1099511627776
theorem Ints40.to64 {l : List Int} (h : Ints40 l) : Ints64 l := fun j hj => by have := h j hj; omega

end

section
open Go Go.RowKit
set_option linter.unusedVariables false

/-- The builder at b, made behind B, holds these bytes. -/
def Bld (B b : Nat) (l : List UInt8) (w : World) : Prop := Lib.IsBuilderF 76 5 B b (Lib.byteCells l) w
theorem Bld.lt {B b : Nat} {l : List UInt8} {w : World} (h : Bld B b l w) : b < w.heap.size := h.elim (fun x => x.lt) (fun x => x.lt)
theorem Bld.le {B b : Nat} {l : List UInt8} {w : World} (h : Bld B b l w) : B ≤ b := h.elim (fun x => x.1) (fun x => x.1)
theorem Bld.new (w : World) : Bld w.heap.size w.heap.size [] (w.alloc (.cells #[.pointer none, .slice none 0 0] 76)) := Lib.IsBuilderF.of (Lib.fresh_isBuilder _ _ w)
theorem bldAt_below {T e : TypeId} {B b : Nat} {p : Value} {l : List Value} {W W' : World} (h : Lib.BuilderAtF T e B b p l W) (hb : Below W.heap.size W W') : Lib.BuilderAtF T e B b p l W' := by
  have hlt := h.lt
  obtain ⟨hB, v, hv, hown, hne⟩ := h
  exact ⟨hB, v, (hb.block b hlt).trans hv, hown.kept (row := none) ⟨hb.os, hb.tape, hb.output, hb.size, fun k hk _ => hb.block k hk⟩ (Classical.em _), hne⟩
theorem Bld.up {B b : Nat} {l : List UInt8} {W W' : World} (h : Bld B b l W) (hb : Below W.heap.size W W') : Bld B b l W' := h.elim (fun x => .inl (bldAt_below x hb)) (fun x => .inr (bldAt_below x hb))
theorem wr_any (B b : Nat) (l : List UInt8) (s : ByteArray) (w : World) (h : Bld B b l w) (hlen : l.length + s.size ≤ 140737488355328) :
    Calls Tryd.prog 28 #[.pointer (some ⟨b, 0, none⟩), .string s] w fun e w' => e = .returned (.tuple #[.int .i64 s.size, .nilIface]) ∧ Bld B b (l ++ s.data.toList) w' ∧ Below B w w' ∧ Lib.OthersKept 5 (some b) w w' := by
  have h1 := h.lt
  have h2 := h.le
  refine (Tryd.Builder_WriteString_k B b (Lib.byteCells l) s w h (by unfold Lib.byteCells; rw [List.length_map]; exact hlen) (by omega)).mono ?_
  rintro e w' ⟨he, h3, h4, h5⟩
  refine ⟨he, .inr ?_, h4, h5⟩
  have e1 : Lib.byteCells (l ++ s.data.toList) = Lib.byteCells l ++ Lib.strCells s := by unfold Lib.byteCells Lib.strCells; rw [List.map_append]
  rw [e1]
  exact h3
theorem wlen_any (B b : Nat) (l : List UInt8) (w : World) (h : Bld B b l w) :
    Calls Tryd.prog 32 #[.pointer (some ⟨b, 0, none⟩)] w fun e w' => e = .returned (.int .i64 l.length) ∧ w' = w := by
  refine (Tryd.Builder_Len_f B b (Lib.byteCells l) w h).mono ?_
  rintro e w' ⟨he, h3⟩
  exact ⟨by rw [he]; unfold Lib.byteCells; rw [List.length_map], h3⟩
theorem wstr_any (B b : Nat) (l : List UInt8) (w : World) (h : Bld B b l w) :
    Calls Tryd.prog 33 #[.pointer (some ⟨b, 0, none⟩)] w fun e w' => e = .returned (.string (bs l)) ∧ Below B w w' := by
  have h1 := h.lt
  have h2 := h.le
  refine (Tryd.Builder_String_any_k B b l w h (by omega)).mono ?_
  rintro e w' ⟨he, h3, h4, h5⟩
  exact ⟨he, h4⟩
/-- What lies in another block, of another type, lies there still. -/
theorem oth_block {b k : Nat} {w w' : World} {c : Array Value} {T : TypeId} {fz : Nat × Nat} (h : Lib.OthersKept 5 (some b) w w') (hk : w.heap[k]? = some (.cells c T fz)) (hne : k ≠ b) (hT : T ≠ 5) : w'.heap[k]? = some (.cells c T fz) :=
  h k _ hk (fun e => hne (Option.some.inj e)) (fun c' fz' e => hT (by cases e; rfl))
theorem name_le {t : Tsk} (h : chkC t = 0) : ∀ k, k < t.ops.length → (opr t.ops k).name.size ≤ 256 := by
  intro k hk
  have h1 : misT t = false := by
    unfold chkC at h
    cases e : misT t
    · rfl
    · rw [e] at h
      split at h
      · omega
      · split at h
        · omega
        · split at h
          · omega
          · simp at h
  have h2 := anyB_false.1 h1 k hk
  unfold misO at h2
  rw [Bool.or_eq_false_iff] at h2
  have := h2.1
  simp at this
  omega
/-- What Format answers: the error's number, the text. -/
def fmC (t : Tsk) : Int := if chkC t ≠ 0 then chkC t else if 65536 < (fmL t t.ops.length).length then 5 else 0
def fmS (t : Tsk) : ByteArray := if fmC t = 0 then bs (fmL t t.ops.length) else ⟨#[]⟩
end

end Go.Proofs.YtbcbmpnikgeoeaaDoor

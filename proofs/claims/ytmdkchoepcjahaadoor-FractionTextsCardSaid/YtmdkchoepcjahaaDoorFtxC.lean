/- Texts of fractions, both programs. -/
import Derived.Test.YtmdkchoepcjahaaDoorShlE
import Derived.Test.YtmdkchoepcjahaaDoorFtxP
import Derived.Test.YtmdkchoepcjahaaDoorFracH
import Derived.Test.YtmdkchoepcjahaaDoorFracQ
namespace Go.Proofs.YtmdkchoepcjahaaDoor
set_option linter.unusedSimpArgs false
set_option linter.unusedVariables false
open Go Go.RowKit
open Go.Lib (decDigits itoa decDigits_one)
set_option linter.unusedVariables false

def txtB (n d : Int) : ByteArray := ⟨(txtF n d).toArray⟩
theorem txtB_data (n d : Int) : (txtB n d).data.toList = txtF n d := rfl
theorem txt_cat {n d : Int} (h : d ≠ 1) : itB n ++ { data := #[47] } ++ itB d = txtB n d := by
  apply ByteArray.ext
  simp [ByteArray.data_append, itB, txtB, txtF, h]
theorem txt_one {n d : Int} (h : d = 1) : itB n = txtB n d := by
  unfold itB txtB txtF; rw [if_pos h]
set_option maxHeartbeats 1000000 in
theorem text_any (n d : Int) (w : World) (hE : EnvT w) :
    Calls Tryd.prog 15 #[.agg #[.int .i64 n, .int .i64 d]] w fun e w' => e = .returned (.string (txtB (valN n d) (valD n d))) ∧ Below w.heap.size w w' := by
  have h1 := valP n d
  obtain ⟨b1, b2, b3, b4⟩ := pr_bd h1
  have v1 := fun W => value_any n d W
  generalize valN n d = N at *
  generalize valD n d = D at *
  have V1 := Lib.hid v1
  have HE := Lib.hid hE
  clear v1 h1 hE
  by_cases hD : D = 1
  · have e1 : (D == 1) = true := by simp [hD]
    have HD := Lib.hid hD
    clear hD
    go_enter Tryd.func15, Tryd.ntmps15
    go_wp2_with fail; refine (V1.out _).mono ?_; rintro e w1 ⟨rfl, hb1⟩; obtain ⟨hc1, hf1, hz1, hlt1, hle1⟩ := cellsIf hb1 (by (try simp); exact rfl); (try have : w.heap.size < w1.heap.size := (by omega)); (try have : w.heap.size < w1.heap.size + 1 := (by omega)); (try have : w.heap.size < w1.heap.size + 1 + 1 := (by omega)); (try have : w.heap.size + 1 < w1.heap.size := (by omega)); (try have : w.heap.size + 1 < w1.heap.size + 1 := (by omega)); (try have : w.heap.size + 1 < w1.heap.size + 1 + 1 := (by omega)); (try have : w.heap.size + 1 + 1 < w1.heap.size := (by omega)); (try have : w.heap.size + 1 + 1 < w1.heap.size + 1 := (by omega)); (try have : w.heap.size + 1 + 1 < w1.heap.size + 1 + 1 := (by omega))
    go_wp2_with fail; refine (itoa_any N _ (by omega) (by omega) (HE.out.up (by repeat (first | exact Below.refl _ _ | refine below_dN ?_ _ | refine Below.drew ?_ | refine Below.alloc ?_ (by first | omega | (simp; done) | (simp; omega)) _ | refine Below.setCell ?_ (by first | omega | (simp; done) | (simp; omega)) _ | refine below_step (by assumption) (by first | omega | (simp; done) | (simp; omega)) ?_)))).mono ?_; rintro e w2 ⟨rfl, hb2⟩; obtain ⟨hc2, hf2, hz2, hlt2, hle2⟩ := cellsIf hb2 (by (try simp); exact rfl); (try have : w.heap.size < w2.heap.size := (by omega)); (try have : w.heap.size < w2.heap.size + 1 := (by omega)); (try have : w.heap.size < w2.heap.size + 1 + 1 := (by omega)); (try have : w.heap.size + 1 < w2.heap.size := (by omega)); (try have : w.heap.size + 1 < w2.heap.size + 1 := (by omega)); (try have : w.heap.size + 1 < w2.heap.size + 1 + 1 := (by omega)); (try have : w.heap.size + 1 + 1 < w2.heap.size := (by omega)); (try have : w.heap.size + 1 + 1 < w2.heap.size + 1 := (by omega)); (try have : w.heap.size + 1 + 1 < w2.heap.size + 1 + 1 := (by omega)); (try have : w1.heap.size < w2.heap.size := (by omega)); (try have : w1.heap.size < w2.heap.size + 1 := (by omega)); (try have : w1.heap.size < w2.heap.size + 1 + 1 := (by omega)); (try have : w1.heap.size + 1 < w2.heap.size := (by omega)); (try have : w1.heap.size + 1 < w2.heap.size + 1 := (by omega)); (try have : w1.heap.size + 1 < w2.heap.size + 1 + 1 := (by omega)); (try have : w1.heap.size + 1 + 1 < w2.heap.size := (by omega)); (try have : w1.heap.size + 1 + 1 < w2.heap.size + 1 := (by omega)); (try have : w1.heap.size + 1 + 1 < w2.heap.size + 1 + 1 := (by omega))
    go_wp2
    go_ret
    refine ⟨congrArg (fun b => Ending.returned (.string b)) (txt_one HD.out), ?_⟩
    repeat (first | exact Below.refl _ _ | refine below_dN ?_ _ | refine Below.drew ?_ | refine Below.alloc ?_ (by first | omega | (simp; done) | (simp; omega)) _ | refine Below.setCell ?_ (by first | omega | (simp; done) | (simp; omega)) _ | refine below_step (by assumption) (by first | omega | (simp; done) | (simp; omega)) ?_)
  · have e1 : (D == 1) = false := by simp [hD]
    have HD := Lib.hid hD
    clear hD
    go_enter Tryd.func15, Tryd.ntmps15
    go_wp2_with fail; refine (V1.out _).mono ?_; rintro e w1 ⟨rfl, hb1⟩; obtain ⟨hc1, hf1, hz1, hlt1, hle1⟩ := cellsIf hb1 (by (try simp); exact rfl); (try have : w.heap.size < w1.heap.size := (by omega)); (try have : w.heap.size < w1.heap.size + 1 := (by omega)); (try have : w.heap.size < w1.heap.size + 1 + 1 := (by omega)); (try have : w.heap.size + 1 < w1.heap.size := (by omega)); (try have : w.heap.size + 1 < w1.heap.size + 1 := (by omega)); (try have : w.heap.size + 1 < w1.heap.size + 1 + 1 := (by omega)); (try have : w.heap.size + 1 + 1 < w1.heap.size := (by omega)); (try have : w.heap.size + 1 + 1 < w1.heap.size + 1 := (by omega)); (try have : w.heap.size + 1 + 1 < w1.heap.size + 1 + 1 := (by omega))
    have E1 := Lib.hid (HE.out.up (show Below w.heap.size w w1 by repeat (first | exact Below.refl _ _ | refine below_dN ?_ _ | refine Below.drew ?_ | refine Below.alloc ?_ (by first | omega | (simp; done) | (simp; omega)) _ | refine Below.setCell ?_ (by first | omega | (simp; done) | (simp; omega)) _ | refine below_step (by assumption) (by first | omega | (simp; done) | (simp; omega)) ?_)))
    have s1 := itB_size N (by omega) (by omega)
    have s2 := itB_size D (by omega) (by omega)
    clear E1
    go_wp2
    refine wp_region_aft (by kernel_rfl) (by kernel_rfl) (by (try simp); exact rfl) ?_; intro haft; (repeat (go_big_quiet_step ((go_at_call 26; exact aft_of (itoa_any _ _ (by omega) (by omega) (HE.out.up (below_step (Aft.below _) (by first | omega | (simp; done) | (simp; omega)) (by repeat (first | exact Below.refl _ _ | refine below_dN ?_ _ | refine Below.drew ?_ | refine Below.alloc ?_ (by first | omega | (simp; done) | (simp; omega)) _ | refine Below.setCell ?_ (by first | omega | (simp; done) | (simp; omega)) _ | refine below_step (by assumption) (by first | omega | (simp; done) | (simp; omega)) ?_))))))))); refine wpQuiet_nil ?_; intro w2 hwx; have hb2 := aft_below hwx; clear hwx; obtain ⟨hc2, hf2, hz2, hlt2, hle2⟩ := cellsIf hb2 (by (try simp); exact rfl); (try have : w.heap.size < w2.heap.size := (by omega)); (try have : w.heap.size < w2.heap.size + 1 := (by omega)); (try have : w.heap.size < w2.heap.size + 1 + 1 := (by omega)); (try have : w.heap.size + 1 < w2.heap.size := (by omega)); (try have : w.heap.size + 1 < w2.heap.size + 1 := (by omega)); (try have : w.heap.size + 1 < w2.heap.size + 1 + 1 := (by omega)); (try have : w.heap.size + 1 + 1 < w2.heap.size := (by omega)); (try have : w.heap.size + 1 + 1 < w2.heap.size + 1 := (by omega)); (try have : w.heap.size + 1 + 1 < w2.heap.size + 1 + 1 := (by omega)); (try have : w1.heap.size < w2.heap.size := (by omega)); (try have : w1.heap.size < w2.heap.size + 1 := (by omega)); (try have : w1.heap.size < w2.heap.size + 1 + 1 := (by omega)); (try have : w1.heap.size + 1 < w2.heap.size := (by omega)); (try have : w1.heap.size + 1 < w2.heap.size + 1 := (by omega)); (try have : w1.heap.size + 1 < w2.heap.size + 1 + 1 := (by omega)); (try have : w1.heap.size + 1 + 1 < w2.heap.size := (by omega)); (try have : w1.heap.size + 1 + 1 < w2.heap.size + 1 := (by omega)); (try have : w1.heap.size + 1 + 1 < w2.heap.size + 1 + 1 := (by omega)); clear haft
    go_wp2
    go_ret
    refine ⟨congrArg (fun b => Ending.returned (.string b)) (txt_cat HD.out), ?_⟩
    repeat (first | exact Below.refl _ _ | refine below_dN ?_ _ | refine Below.drew ?_ | refine Below.alloc ?_ (by first | omega | (simp; done) | (simp; omega)) _ | refine Below.setCell ?_ (by first | omega | (simp; done) | (simp; omega)) _ | refine below_step (by assumption) (by first | omega | (simp; done) | (simp; omega)) ?_)

/-- What the loop of digits has done. -/
def DigI (u r : Nat) (b : ByteArray) : Prop := (0 < r ∧ decDigits u = decDigits r ++ b.data.toList) ∨ (r = 0 ∧ decDigits u = b.data.toList)
/-- One byte as a string. -/
def dgB (c : Int) : ByteArray := ⟨#[UInt8.ofNat c.toNat]⟩
theorem dgB_cat (c : Int) (b : ByteArray) : (dgB c ++ b).data.toList = UInt8.ofNat c.toNat :: b.data.toList := by
  simp [dgB, ByteArray.data_append]
theorem conv_one (w : World) (c : Int) (h0 : 0 ≤ c) (h1 : c < 256) :
    (convert 59 9 (.slice (some ⟨w.heap.size, 0, none⟩) 1 1)).run Tryd.prog (w.alloc (.cells #[.int .u8 c] 5)) = .ok (.string (dgB c)) (w.alloc (.cells #[.int .u8 c] 5)) := by
  have h := run_convert_bytes_back (P := Tryd.prog) (w.alloc (.cells #[.int .u8 c] 5)) 59 9 5 ⟨w.heap.size, 0, none⟩ 1 [UInt8.ofNat c.toNat] Tryd.underlying59 Tryd.underlying5 Tryd.underlying9 (fun j hj => by
    have : j = 0 := by simp at hj; omega
    subst this
    have e : (UInt8.ofNat c.toNat).toNat = c.toNat := by rw [UInt8.toNat_ofNat']; omega
    show (w.alloc _).cell? ⟨w.heap.size, 0, none⟩ = _
    simp only [List.getElem_cons_zero, e]
    rw [show ((c.toNat : Nat) : Int) = c by omega]
    simp)
  exact h
theorem dig_pos {u r : Int} {b : ByteArray} (hr : 0 < r) (hu : 0 ≤ u) (h : decDigits u.toNat = decDigits r.toNat ++ b.data.toList) : DigI u.toNat (r / 10).toNat (dgB (48 + r % 10) ++ b) := by
  have e : (48 + r % 10).toNat = 48 + r.toNat % 10 := by omega
  have e2 : (r / 10).toNat = r.toNat / 10 := by omega
  unfold DigI
  rw [dgB_cat, e, e2]
  by_cases h10 : r.toNat < 10
  · refine .inr ⟨by omega, ?_⟩
    rw [h, decDigits_one h10, show r.toNat % 10 = r.toNat by omega]
    simp
  · refine .inl ⟨by omega, ?_⟩
    rw [h, dec_big h10, List.append_assoc]
    simp
theorem dig_first {u : Int} (hu : 0 ≤ u) : DigI u.toNat (u / 10).toNat (dgB (48 + u % 10) ++ ⟨#[]⟩) := by
  have e : (48 + u % 10).toNat = 48 + u.toNat % 10 := by omega
  have e2 : (u / 10).toNat = u.toNat / 10 := by omega
  unfold DigI
  rw [dgB_cat, e, e2]
  by_cases h10 : u.toNat < 10
  · refine .inr ⟨by omega, ?_⟩
    rw [decDigits_one h10, show u.toNat % 10 = u.toNat by omega]
  · refine .inl ⟨by omega, ?_⟩
    rw [dec_big h10]
def msr (sv rv : Value) : Nat := (RowKit.intOf rv).toNat + match sv with
  | .string b => if b.toList.isEmpty then 1 else 0
  | _ => 0
theorem dig_size {u r : Nat} {b : ByteArray} (h : DigI u r b) (hu : u ≤ 1099511627776) : b.size ≤ 21 := by
  have hl := Go.Lib.itoa_length_le (u : Int) (by omega) (by omega)
  have e : itoa (u : Int) = decDigits u := by unfold itoa; rw [if_neg (by omega)]; rfl
  rw [e] at hl
  have hb : b.size = b.data.toList.length := rfl
  rcases h with ⟨_, h⟩ | ⟨_, h⟩ <;> rw [h] at hl <;> simp at hl <;> simp at hb <;> omega
theorem dig_end_pos {n u : Int} {b : ByteArray} (hu : aI n = u) (h : decDigits u.toNat = b.data.toList) (hn : 0 ≤ n) : b = itB n := by
  apply ByteArray.ext
  apply Array.toList_inj.1
  rw [← h]
  show _ = itoa n
  unfold itoa aI at *
  rw [if_neg (by omega), show u.toNat = n.toNat by omega]
theorem dig_end_neg {n u : Int} {b : ByteArray} (hu : aI n = u) (h : decDigits u.toNat = b.data.toList) (hn : n < 0) : { data := #[45] } ++ b = itB n := by
  apply ByteArray.ext
  apply Array.toList_inj.1
  rw [ByteArray.data_append, Array.toList_append, ← h]
  show _ = itoa n
  unfold itoa aI at *
  rw [if_pos (by omega), show u.toNat = n.natAbs by omega]; rfl
theorem dgB_ne (c : Int) (b : ByteArray) : (dgB c ++ b).toList.isEmpty = false := by
  rw [Go.Lib.toList_data, dgB_cat]; rfl

set_option maxRecDepth 20000 in
set_option maxHeartbeats 1000000 in
theorem digits_any (n : Int) (w : World) (h0 : -1099511627776 ≤ n) (h1 : n ≤ 1099511627776) :
    Calls Tryd.prog 28 #[.int .i64 n] w fun e w' => e = .returned (.string (itB n)) ∧ Below w.heap.size w w' := by
  obtain ⟨u, hu⟩ : ∃ u : Int, aI n = u := ⟨_, rfl⟩
  have z1 := fun W => size_any n W (by omega) (by omega)
  have hub : u ≤ 1099511627776 := by have := aI_le n 1099511627776 h0 h1; omega
  have hu0 : 0 ≤ u := by have := aI_nonneg n; omega
  rw [hu] at z1
  have Z1 := Lib.hid z1
  have HU := Lib.hid hu
  clear z1 hu
  go_enter Tryd.func28, Tryd.ntmps28
  go_wp2_with (go_at_call 34; refine (Z1.out _).mono ?_; rintro e w' ⟨rfl, rfl⟩)
  go_loopw [3, 4] (fun sv rv wr => ∃ (b : ByteArray) (r : Int), sv = .string b ∧ rv = .int .u64 r ∧ 0 ≤ r ∧ r ≤ 1099511627776 ∧ ((b = ⟨#[]⟩ ∧ r = u) ∨ (b.toList.isEmpty = false ∧ Hid (DigI u.toNat r.toNat b))) ∧ Below w.heap.size w wr) (fun sv rv _ => msr sv rv)
  case atStart => exact ⟨⟨#[]⟩, u, rfl, rfl, hu0, hub, .inl ⟨rfl, rfl⟩, by repeat (first | exact Below.refl _ _ | refine below_dN ?_ _ | refine Below.drew ?_ | refine Below.alloc ?_ (by first | omega | (simp; done) | (simp; omega)) _ | refine Below.setCell ?_ (by first | omega | (simp; done) | (simp; omega)) _ | refine below_step (by assumption) (by first | omega | (simp; done) | (simp; omega)) ?_)⟩
  case round =>
    obtain ⟨b, r, rfl, rfl, hr0, hr, hcase, hbel⟩ := hrel
    have hbz := hbel.size
    have hcv := fun wx => conv_one wx (48 + r % 10) (by omega) (by omega)
    have hd1 : (dgB (48 + r % 10)).size ≤ 1 := Nat.le_refl 1
    rcases hcase with ⟨rfl, hru⟩ | ⟨hne, hD⟩
    · have HD := Lib.hid (show DigI u.toNat (r / 10).toNat (dgB (48 + r % 10) ++ ⟨#[]⟩) by subst hru; exact dig_first hr0)
      clear hru
      by_cases hp : 0 < r
      · have p1 : decide (0 < r) = true := decide_eq_true hp
        go_wp2
        go_roundw
        case rel => exact ⟨_, _, rfl, rfl, by omega, by omega, .inr ⟨dgB_ne _ _, HD⟩, by repeat (first | exact Below.refl _ _ | refine below_dN ?_ _ | refine Below.drew ?_ | refine Below.alloc ?_ (by first | omega | (simp; done) | (simp; omega)) _ | refine Below.setCell ?_ (by first | omega | (simp; done) | (simp; omega)) _ | refine below_step (by assumption) (by first | omega | (simp; done) | (simp; omega)) ?_)⟩
        case measure => simp [msr, RowKit.intOf, dgB_ne]; omega
      · have p1 : decide (0 < r) = false := decide_eq_false hp
        go_wp2
        go_roundw
        case rel => exact ⟨_, _, rfl, rfl, by omega, by omega, .inr ⟨dgB_ne _ _, HD⟩, by repeat (first | exact Below.refl _ _ | refine below_dN ?_ _ | refine Below.drew ?_ | refine Below.alloc ?_ (by first | omega | (simp; done) | (simp; omega)) _ | refine Below.setCell ?_ (by first | omega | (simp; done) | (simp; omega)) _ | refine below_step (by assumption) (by first | omega | (simp; done) | (simp; omega)) ?_)⟩
        case measure => simp [msr, RowKit.intOf, dgB_ne]; omega
    · have hsz := dig_size hD.out (by omega)
      by_cases hp : 0 < r
      · have p1 : decide (0 < r) = true := decide_eq_true hp
        have HD := Lib.hid (show decDigits u.toNat = decDigits r.toNat ++ b.data.toList by
          rcases hD.out with ⟨_, h⟩ | ⟨h, _⟩
          · exact h
          · omega)
        go_wp2
        go_roundw
        case rel => exact ⟨_, _, rfl, rfl, by omega, by omega, .inr ⟨dgB_ne _ _, Lib.hid (dig_pos hp hu0 HD.out)⟩, by repeat (first | exact Below.refl _ _ | refine below_dN ?_ _ | refine Below.drew ?_ | refine Below.alloc ?_ (by first | omega | (simp; done) | (simp; omega)) _ | refine Below.setCell ?_ (by first | omega | (simp; done) | (simp; omega)) _ | refine below_step (by assumption) (by first | omega | (simp; done) | (simp; omega)) ?_)⟩
        case measure => simp [msr, RowKit.intOf, dgB_ne, hne]; omega
      · have p1 : decide (0 < r) = false := decide_eq_false hp
        clear hcv
        have HD := Lib.hid (show decDigits u.toNat = b.data.toList by
          rcases hD.out with ⟨h, _⟩ | ⟨_, h⟩
          · omega
          · exact h)
        by_cases hn : n < 0
        · have p2 : decide (n < 0) = true := decide_eq_true hn
          go_wp2
          go_ret
          refine ⟨?_, by repeat (first | exact Below.refl _ _ | refine below_dN ?_ _ | refine Below.drew ?_ | refine Below.alloc ?_ (by first | omega | (simp; done) | (simp; omega)) _ | refine Below.setCell ?_ (by first | omega | (simp; done) | (simp; omega)) _ | refine below_step (by assumption) (by first | omega | (simp; done) | (simp; omega)) ?_)⟩
          exact congrArg (fun b => Ending.returned (.string b)) (dig_end_neg HU.out HD.out (by omega))
        · have p2 : decide (n < 0) = false := decide_eq_false hn
          go_wp2
          go_ret
          refine ⟨?_, by repeat (first | exact Below.refl _ _ | refine below_dN ?_ _ | refine Below.drew ?_ | refine Below.alloc ?_ (by first | omega | (simp; done) | (simp; omega)) _ | refine Below.setCell ?_ (by first | omega | (simp; done) | (simp; omega)) _ | refine below_step (by assumption) (by first | omega | (simp; done) | (simp; omega)) ?_)⟩
          exact congrArg (fun b => Ending.returned (.string b)) (dig_end_pos HU.out HD.out (by omega))

end Go.Proofs.YtmdkchoepcjahaaDoor

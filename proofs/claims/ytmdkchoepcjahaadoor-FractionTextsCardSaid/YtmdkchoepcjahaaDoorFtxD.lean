/- Texts of fractions, the reference's: Text, number. -/
import Derived.Test.YtmdkchoepcjahaaDoorFtxC
namespace Go.Proofs.YtmdkchoepcjahaaDoor
set_option linter.unusedSimpArgs false
set_option linter.unusedVariables false
open Go Go.RowKit
set_option linter.unusedVariables false

set_option maxHeartbeats 1000000 in
theorem rtext_any (n d : Int) (w : World) :
    Calls Tryd.prog 17 #[.agg #[.int .i64 n, .int .i64 d]] w fun e w' => e = .returned (.string (txtB (valN n d) (valD n d))) ∧ Below w.heap.size w w' := by
  have h1 := valP n d
  obtain ⟨b1, b2, b3, b4⟩ := pr_bd h1
  have v1 := fun W => rplain_any n d W
  generalize valN n d = N at *
  generalize valD n d = D at *
  have V1 := Lib.hid v1
  clear v1 h1
  by_cases hD : D = 1
  · have e1 : (D == 1) = true := by simp [hD]
    have HD := Lib.hid hD
    clear hD
    go_enter Tryd.func17, Tryd.ntmps17
    go_wp2_with fail; refine (V1.out _).mono ?_; rintro e w1 ⟨rfl, hb1⟩; obtain ⟨hc1, hf1, hz1, hlt1, hle1⟩ := cellsIf hb1 (by (try simp); exact rfl); (try have : w.heap.size < w1.heap.size := (by omega)); (try have : w.heap.size < w1.heap.size + 1 := (by omega)); (try have : w.heap.size < w1.heap.size + 1 + 1 := (by omega)); (try have : w.heap.size + 1 < w1.heap.size := (by omega)); (try have : w.heap.size + 1 < w1.heap.size + 1 := (by omega)); (try have : w.heap.size + 1 < w1.heap.size + 1 + 1 := (by omega)); (try have : w.heap.size + 1 + 1 < w1.heap.size := (by omega)); (try have : w.heap.size + 1 + 1 < w1.heap.size + 1 := (by omega)); (try have : w.heap.size + 1 + 1 < w1.heap.size + 1 + 1 := (by omega))
    go_wp2_with fail; refine (digits_any N _ (by omega) (by omega)).mono ?_; rintro e w2 ⟨rfl, hb2⟩; obtain ⟨hc2, hf2, hz2, hlt2, hle2⟩ := cellsIf hb2 (by (try simp); exact rfl); (try have : w.heap.size < w2.heap.size := (by omega)); (try have : w.heap.size < w2.heap.size + 1 := (by omega)); (try have : w.heap.size < w2.heap.size + 1 + 1 := (by omega)); (try have : w.heap.size + 1 < w2.heap.size := (by omega)); (try have : w.heap.size + 1 < w2.heap.size + 1 := (by omega)); (try have : w.heap.size + 1 < w2.heap.size + 1 + 1 := (by omega)); (try have : w.heap.size + 1 + 1 < w2.heap.size := (by omega)); (try have : w.heap.size + 1 + 1 < w2.heap.size + 1 := (by omega)); (try have : w.heap.size + 1 + 1 < w2.heap.size + 1 + 1 := (by omega)); (try have : w1.heap.size < w2.heap.size := (by omega)); (try have : w1.heap.size < w2.heap.size + 1 := (by omega)); (try have : w1.heap.size < w2.heap.size + 1 + 1 := (by omega)); (try have : w1.heap.size + 1 < w2.heap.size := (by omega)); (try have : w1.heap.size + 1 < w2.heap.size + 1 := (by omega)); (try have : w1.heap.size + 1 < w2.heap.size + 1 + 1 := (by omega)); (try have : w1.heap.size + 1 + 1 < w2.heap.size := (by omega)); (try have : w1.heap.size + 1 + 1 < w2.heap.size + 1 := (by omega)); (try have : w1.heap.size + 1 + 1 < w2.heap.size + 1 + 1 := (by omega))
    go_wp2
    go_ret
    refine ⟨congrArg (fun b => Ending.returned (.string b)) (txt_one HD.out), ?_⟩
    repeat (first | exact Below.refl _ _ | refine below_dN ?_ _ | refine Below.drew ?_ | refine Below.alloc ?_ (by first | omega | (simp; done) | (simp; omega)) _ | refine Below.setCell ?_ (by first | omega | (simp; done) | (simp; omega)) _ | refine below_step (by assumption) (by first | omega | (simp; done) | (simp; omega)) ?_)
  · have e1 : (D == 1) = false := by simp [hD]
    have HD := Lib.hid hD
    clear hD
    go_enter Tryd.func17, Tryd.ntmps17
    go_wp2_with fail; refine (V1.out _).mono ?_; rintro e w1 ⟨rfl, hb1⟩; obtain ⟨hc1, hf1, hz1, hlt1, hle1⟩ := cellsIf hb1 (by (try simp); exact rfl); (try have : w.heap.size < w1.heap.size := (by omega)); (try have : w.heap.size < w1.heap.size + 1 := (by omega)); (try have : w.heap.size < w1.heap.size + 1 + 1 := (by omega)); (try have : w.heap.size + 1 < w1.heap.size := (by omega)); (try have : w.heap.size + 1 < w1.heap.size + 1 := (by omega)); (try have : w.heap.size + 1 < w1.heap.size + 1 + 1 := (by omega)); (try have : w.heap.size + 1 + 1 < w1.heap.size := (by omega)); (try have : w.heap.size + 1 + 1 < w1.heap.size + 1 := (by omega)); (try have : w.heap.size + 1 + 1 < w1.heap.size + 1 + 1 := (by omega))
    have s1 := itB_size N (by omega) (by omega)
    have s2 := itB_size D (by omega) (by omega)
    go_wp2
    refine wp_region_aft (by kernel_rfl) (by kernel_rfl) (by (try simp); exact rfl) ?_; intro haft; (repeat (go_big_quiet_step ((go_at_call 28; exact aft_of (digits_any _ _ (by omega) (by omega)))))); refine wpQuiet_nil ?_; intro w2 hwx; have hb2 := aft_below hwx; clear hwx; obtain ⟨hc2, hf2, hz2, hlt2, hle2⟩ := cellsIf hb2 (by (try simp); exact rfl); (try have : w.heap.size < w2.heap.size := (by omega)); (try have : w.heap.size < w2.heap.size + 1 := (by omega)); (try have : w.heap.size < w2.heap.size + 1 + 1 := (by omega)); (try have : w.heap.size + 1 < w2.heap.size := (by omega)); (try have : w.heap.size + 1 < w2.heap.size + 1 := (by omega)); (try have : w.heap.size + 1 < w2.heap.size + 1 + 1 := (by omega)); (try have : w.heap.size + 1 + 1 < w2.heap.size := (by omega)); (try have : w.heap.size + 1 + 1 < w2.heap.size + 1 := (by omega)); (try have : w.heap.size + 1 + 1 < w2.heap.size + 1 + 1 := (by omega)); (try have : w1.heap.size < w2.heap.size := (by omega)); (try have : w1.heap.size < w2.heap.size + 1 := (by omega)); (try have : w1.heap.size < w2.heap.size + 1 + 1 := (by omega)); (try have : w1.heap.size + 1 < w2.heap.size := (by omega)); (try have : w1.heap.size + 1 < w2.heap.size + 1 := (by omega)); (try have : w1.heap.size + 1 < w2.heap.size + 1 + 1 := (by omega)); (try have : w1.heap.size + 1 + 1 < w2.heap.size := (by omega)); (try have : w1.heap.size + 1 + 1 < w2.heap.size + 1 := (by omega)); (try have : w1.heap.size + 1 + 1 < w2.heap.size + 1 + 1 := (by omega)); clear haft
    go_wp2
    go_ret
    refine ⟨congrArg (fun b => Ending.returned (.string b)) (txt_cat HD.out), ?_⟩
    repeat (first | exact Below.refl _ _ | refine below_dN ?_ _ | refine Below.drew ?_ | refine Below.alloc ?_ (by first | omega | (simp; done) | (simp; omega)) _ | refine Below.setCell ?_ (by first | omega | (simp; done) | (simp; omega)) _ | refine below_step (by assumption) (by first | omega | (simp; done) | (simp; omega)) ?_)

/-- What number has read. -/
def NumI (s : ByteArray) (k : Nat) (acc : Int) : Prop := 0 ≤ acc ∧ acc.toNat < 10 ^ k ∧ numF s.data.toList = numG (13 - k) acc.toNat (s.data.toList.drop k)
def nuV (s : ByteArray) : Int := ((numF s.data.toList).1 : Int)
def nuR (s : ByteArray) : ByteArray := ⟨(numF s.data.toList).2.toArray⟩
theorem num_stop {s : ByteArray} {k : Nat} {acc : Int} (h : NumI s k acc) (hk : k ≤ s.size) (hs : (13 - k = 0) ∨ k = s.size ∨ (∃ h : k < s.size, ¬ (48 ≤ (s[k]'h).toNat ∧ (s[k]'h).toNat ≤ 57))) : nuV s = acc ∧ nuR s = s.extract k s.size := by
  obtain ⟨h0, hb, h⟩ := h
  have e : numF s.data.toList = (acc.toNat, s.data.toList.drop k) := by
    rw [h]
    rcases hs with hs | hs | ⟨hlt, hs⟩
    · rw [hs]; rfl
    · have : s.data.toList.drop k = [] := List.drop_eq_nil_of_le (by rw [hs]; show s.data.size ≥ _; simp)
      rw [this, numG_end]
    · have hc : s.data.toList.drop k = s[k] :: s.data.toList.drop (k + 1) := List.drop_eq_getElem_cons (show k < s.data.toList.length by simpa using hlt)
      rw [hc]
      cases hj : 13 - k with
      | zero => rfl
      | succ j =>
        show (if _ then _ else _) = _
        rw [if_neg hs]
  unfold nuV nuR
  rw [e]
  refine ⟨by show ((acc.toNat : Nat) : Int) = acc; omega, ?_⟩
  apply ByteArray.ext
  apply Array.toList_inj.1
  rw [Go.Lib.extract_data]
  have hl : s.data.toList.length = s.size := by show s.data.toList.length = s.data.size; simp
  rw [List.take_of_length_le (by rw [List.length_drop]; omega)]
theorem num_go {s : ByteArray} {k : Nat} {acc : Int} (h : NumI s k acc) (hlt : k < s.size) (h13 : k < 13) (h1 : 48 ≤ s[k].toNat) (h2 : s[k].toNat ≤ 57) : NumI s (k + 1) (10 * acc + ((s[k].toNat : Int) - 48)) := by
  obtain ⟨h0, hb, h⟩ := h
  refine ⟨by omega, by rw [Nat.pow_succ]; omega, ?_⟩
  have hc : s.data.toList.drop k = s[k] :: s.data.toList.drop (k + 1) := List.drop_eq_getElem_cons (show k < s.data.toList.length by simpa using hlt)
  rw [h, hc, show 13 - k = (13 - (k + 1)) + 1 by omega]
  show (if _ then _ else _) = _
  rw [if_pos ⟨h1, h2⟩]
  congr 1; omega
theorem num_bd {s : ByteArray} {k : Nat} {acc : Int} (h : NumI s k acc) (hk : k ≤ 13) : acc < 10000000000000 := by
  obtain ⟨h0, hb, h⟩ := h
  have : 10 ^ k ≤ 10 ^ 13 := Nat.pow_le_pow_right (by omega) hk
  have e : 10 ^ 13 = 10000000000000 := by decide
  omega

set_option maxRecDepth 20000 in
set_option maxHeartbeats 2000000 in
theorem number_any (s : ByteArray) (w : World) (hs : s.size ≤ 140737488355328) :
    Calls Tryd.prog 31 #[.string s] w fun e w' => e = .returned (.tuple #[.int .i64 (nuV s), .string (nuR s)]) ∧ Below w.heap.size w w' := by
  go_enter Tryd.func31, Tryd.ntmps31
  go_wp2
  go_loopw [4, 5] (fun nv iv wr => ∃ (k : Nat) (a : Int), k ≤ s.size ∧ k ≤ 13 ∧ iv = .int .i64 k ∧ nv = .int .i64 a ∧ 0 ≤ a ∧ a < 10000000000000 ∧ Hid (NumI s k a) ∧ Below w.heap.size w wr) (fun _ iv _ => 13 - (RowKit.intOf iv).toNat)
  case atStart => exact ⟨0, 0, by omega, by omega, rfl, rfl, by omega, by omega, Lib.hid ⟨by omega, by decide, rfl⟩, by repeat (first | exact Below.refl _ _ | refine below_dN ?_ _ | refine Below.drew ?_ | refine Below.alloc ?_ (by first | omega | (simp; done) | (simp; omega)) _ | refine Below.setCell ?_ (by first | omega | (simp; done) | (simp; omega)) _ | refine below_step (by assumption) (by first | omega | (simp; done) | (simp; omega)) ?_)⟩
  case round =>
    obtain ⟨k, a, hk, hk13, rfl, rfl, ha0, ha, HI, hbel⟩ := hrel
    by_cases hlt : k < s.size
    · by_cases h13 : k < 13
      · by_cases h1 : 48 ≤ s[k].toNat
        · by_cases h2 : s[k].toNat ≤ 57
          · have q1 : decide ((48 : Int) ≤ (s[k].toNat : Int)) = true := decide_eq_true (by omega)
            have q2 : decide ((s[k].toNat : Int) ≤ 57) = true := decide_eq_true (by omega)
            have HN := Lib.hid (num_go HI.out hlt h13 h1 h2)
            have hb := num_bd HN.out (by omega)
            have ha2 : 0 ≤ 10 * a + ((s[k].toNat : Int) - 48) := by omega
            go_wp2
            go_roundw
            case rel => exact ⟨k + 1, _, by omega, by omega, by go_num, rfl, by omega, by omega, HN, hbel⟩
            case measure => simp [RowKit.intOf]; omega
          · have q1 : decide ((48 : Int) ≤ (s[k].toNat : Int)) = true := decide_eq_true (by omega)
            have q2 : decide ((s[k].toNat : Int) ≤ 57) = false := decide_eq_false (by omega)
            have HS := Lib.hid (num_stop HI.out hk (.inr (.inr ⟨hlt, by omega⟩)))
            go_wp2
            go_quiet (fail)
            go_wp2
            go_ret2
            exact ⟨by rw [HS.out.1, HS.out.2]; rfl, by repeat (first | exact Below.refl _ _ | refine below_dN ?_ _ | refine Below.drew ?_ | refine Below.alloc ?_ (by first | omega | (simp; done) | (simp; omega)) _ | refine Below.setCell ?_ (by first | omega | (simp; done) | (simp; omega)) _ | refine below_step (by assumption) (by first | omega | (simp; done) | (simp; omega)) ?_)⟩
        · have q1 : decide ((48 : Int) ≤ (s[k].toNat : Int)) = false := decide_eq_false (by omega)
          have HS := Lib.hid (num_stop HI.out hk (.inr (.inr ⟨hlt, by omega⟩)))
          go_wp2
          go_quiet (fail)
          go_wp2
          go_ret2
          exact ⟨by rw [HS.out.1, HS.out.2]; rfl, by repeat (first | exact Below.refl _ _ | refine below_dN ?_ _ | refine Below.drew ?_ | refine Below.alloc ?_ (by first | omega | (simp; done) | (simp; omega)) _ | refine Below.setCell ?_ (by first | omega | (simp; done) | (simp; omega)) _ | refine below_step (by assumption) (by first | omega | (simp; done) | (simp; omega)) ?_)⟩
      · have HS := Lib.hid (num_stop HI.out hk (.inl (by omega)))
        have q0 : decide ((k : Int) < 13) = false := decide_eq_false (by omega)
        go_wp2
        go_quiet (fail)
        go_wp2
        go_ret2
        exact ⟨by rw [HS.out.1, HS.out.2]; rfl, by repeat (first | exact Below.refl _ _ | refine below_dN ?_ _ | refine Below.drew ?_ | refine Below.alloc ?_ (by first | omega | (simp; done) | (simp; omega)) _ | refine Below.setCell ?_ (by first | omega | (simp; done) | (simp; omega)) _ | refine below_step (by assumption) (by first | omega | (simp; done) | (simp; omega)) ?_)⟩
    · have HS := Lib.hid (num_stop HI.out hk (.inr (.inl (by omega))))
      go_wp2
      go_quiet (fail)
      go_wp2
      go_ret2
      exact ⟨by rw [HS.out.1, HS.out.2]; rfl, by repeat (first | exact Below.refl _ _ | refine below_dN ?_ _ | refine Below.drew ?_ | refine Below.alloc ?_ (by first | omega | (simp; done) | (simp; omega)) _ | refine Below.setCell ?_ (by first | omega | (simp; done) | (simp; omega)) _ | refine below_step (by assumption) (by first | omega | (simp; done) | (simp; omega)) ?_)⟩

end Go.Proofs.YtmdkchoepcjahaaDoor

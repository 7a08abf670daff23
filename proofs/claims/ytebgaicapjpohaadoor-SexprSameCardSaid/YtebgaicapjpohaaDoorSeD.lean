/- sexpr: value. -/
import Derived.Test.YtebgaicapjpohaaDoorSeC
namespace Go.Proofs.YtebgaicapjpohaaDoor
set_option linter.unusedSimpArgs false
set_option linter.unusedVariables false
open Go Go.RowKit
set_option linter.unusedVariables false

theorem valP_app : ∀ (a b : List UInt8) (n : Int), valP n (a ++ b) = (valP n a).bind fun m => valP m b
  | [], b, n => rfl
  | c :: a, b, n => by
    rw [List.cons_append, valP, valP]
    split
    · rfl
    · exact valP_app a b _
theorem valP_le : ∀ (a : List UInt8) (n m : Int), a.all digB = true → 0 ≤ n → n ≤ 1099511627776 → valP n a = some m → 0 ≤ m ∧ m ≤ 1099511627776
  | [], n, m, _, h0, h1, h => by cases h; exact ⟨h0, h1⟩
  | c :: a, n, m, hd, h0, h1, h => by
    rw [List.all_cons, Bool.and_eq_true] at hd
    have h2 := hd.1
    unfold digB at h2
    simp only [Bool.and_eq_true, decide_eq_true_eq] at h2
    rw [valP] at h
    split at h
    · cases h
    · exact valP_le a _ m hd.2 (by omega) (by omega) h
theorem cut_uns (s : List UInt8) : Lib.hasPrefix s [45] = decide (s.head? = some 45) := by
  cases s with
  | nil => rfl
  | cons c r =>
    show (([45] : List UInt8).isPrefixOf (c :: r)) = decide (some c = some 45)
    by_cases h : c = 45
    · subst h; rfl
    · rw [List.isPrefixOf, beq_eq_false_iff_ne.2 (fun e => h e.symm), decide_eq_false (fun e => h (Option.some.inj e))]; rfl
/-- What value answers. -/
def valV : Option Int → Value
  | some n => .tuple #[.int .i64 n, .bool true]
  | none => .tuple #[.int .i64 0, .bool false]

set_option maxHeartbeats 2000000 in
theorem value_any (s : List UInt8) (w : World) (hs : s.length ≤ 65536) (hN : numB s = true) :
    Calls Tryd.prog 28 #[.string (bs s)] w fun e w' => e = .returned (valV (valueP s)) ∧ w' = w := by
  have kt := fun W => Tryd.strings_CutPrefix (bs s) ⟨#[45]⟩ W
  rw [show (bs s).data.toList = s from rfl, show (⟨#[45]⟩ : ByteArray).data.toList = [45] from rfl, trim_uns, cut_uns] at kt
  have hu := unsP_le s
  have hA : (unsP s).all digB = true := by unfold numB at hN; rw [Bool.and_eq_true] at hN; exact hN.1
  have kt' : ∀ W, Calls Tryd.prog 37 #[.string (bs s), .string ⟨#[45]⟩] W fun e w' => e = .returned (.tuple #[.string (bs (unsP s)), .bool (decide (s.head? = some 45))]) ∧ w' = W := kt
  obtain ⟨V, hQ⟩ : ∃ V, valueP s = V := ⟨_, rfl⟩
  rw [hQ]
  have hQ : V = (valP 0 (unsP s)).map fun n => if s.head? = some 45 then -n else n := hQ.symm
  generalize unsP s = u at *
  obtain ⟨S, hS⟩ : ∃ S, bs u = S := ⟨_, rfl⟩
  rw [hS] at kt'
  have hz : S.size = u.length := by rw [← hS]; exact bs_size u
  have hget : ∀ k (h : k < S.size), S[k] = bt u k := by subst hS; exact fun k h => bs_get u k h
  have HG := Lib.hid hget
  have hdg : ∀ k, k < u.length → 48 ≤ (bt u k).toNat ∧ (bt u k).toNat ≤ 57 := by
    intro k hk
    have := List.all_eq_true.1 hA (bt u k) (by unfold bt; rw [List.getD, List.getElem?_eq_getElem hk]; exact List.getElem_mem hk)
    unfold digB at this
    simpa using this
  have HD := Lib.hid hdg
  have HA := Lib.hid hA
  obtain ⟨mi, hmi⟩ : ∃ mi, decide (s.head? = some 45) = mi := ⟨_, rfl⟩
  rw [hmi] at kt'
  have hif : ∀ n : Int, (if s.head? = some 45 then -n else n) = if mi = true then -n else n := by
    intro n
    rw [← hmi]
    simp
  have HI := Lib.hid (show ∀ o : Option Int, (o.map fun n => if s.head? = some 45 then -n else n) = o.map fun n => if mi = true then -n else n from fun o => by simp only [hif])
  have KT := Lib.hid kt'
  rw [HI.out] at hQ
  have HQ := Lib.hid hQ
  clear hQ
  clear kt kt' hget hS hdg hA hif hmi HI hN
  go_enter Tryd.func28, Tryd.ntmps28
  go_wp2_with fail
  refine (KT.out _).mono ?_
  rintro e w1 ⟨rfl, e1⟩
  subst w1
  go_wp2
  go_loopw [6, 15] (fun n i wr => ∃ (k : Nat) (m : Int), k ≤ u.length ∧ i = .int .i64 k ∧ n = .int .i64 m ∧ 0 ≤ m ∧ m ≤ 1099511627776 ∧ Hid (valP 0 (u.take k) = some m) ∧ wr = w) (fun _ i _ => u.length - (intOf i).toNat)
  case atStart => exact ⟨0, 0, by omega, rfl, rfl, by omega, by omega, Lib.hid rfl, rfl⟩
  case round =>
    obtain ⟨k, m, hk, rfl, rfl, hm0, hm1, HV, hw⟩ := hrel
    by_cases hlt : k < u.length
    · have hlt' : k < S.size := by omega
      have hg := HG.out k hlt'
      have hd := HD.out k hlt
      rw [← hg] at hd
      obtain ⟨hd0, hd1⟩ := hd
      have hv : valP 0 (u.take (k + 1)) = if 1099511627776 < 10 * m + (S[k].toNat - 48 : Int) then none else some (10 * m + (S[k].toNat - 48 : Int)) := by
        rw [bt_take hlt, valP_app, HV.out, hg]
        show valP m [bt u k] = _
        rw [valP]
        rfl
      have HX := Lib.hid hv
      clear hv hg
      by_cases hb : 1099511627776 < 10 * m + (S[k].toNat - 48 : Int)
      · have HN := Lib.hid (show valP 0 u = none by
          conv => lhs; rw [← List.take_append_drop (k + 1) u, valP_app, HX.out, if_pos hb]
          rfl)
        go_wp2
        refine bodyPost_ret (v := .tuple #[.int .i64 0, .bool false]) (by simp [results, Tryd.results28, go_sem, ↓IntWalk.iteOmega, *]) rfl ⟨by rw [HQ.out, HN.out]; rfl, rfl⟩
      · have HY := Lib.hid (show valP 0 (u.take (k + 1)) = some (10 * m + (S[k].toNat - 48 : Int)) by rw [HX.out, if_neg hb])
        go_wp2
        go_roundw
        case rel =>
          refine ⟨k + 1, 10 * m + (S[k].toNat - 48 : Int), by omega, by go_num, by go_num, by omega, by omega, HY, trivial⟩
        case measure => simp [intOf]; omega
    · obtain rfl : k = u.length := by omega
      rw [List.take_length] at HV
      cases mi with
      | true =>
        go_wp2
        refine bodyPost_ret (v := .tuple #[.int .i64 (-m), .bool true]) (by simp [results, Tryd.results28, go_sem, ↓IntWalk.iteOmega, *]) rfl ⟨by rw [HQ.out, HV.out]; rfl, rfl⟩
      | false =>
        go_wp2
        refine bodyPost_ret (v := .tuple #[.int .i64 m, .bool true]) (by simp [results, Tryd.results28, go_sem, ↓IntWalk.iteOmega, *]) rfl ⟨by rw [HQ.out, HV.out]; rfl, rfl⟩
end Go.Proofs.YtebgaicapjpohaaDoor

/- Texts as the machine holds them; sexpr: separator, digit, numeric, value. -/
import Derived.Test.YtebgaicapjpohaaDoorSeB
import Derived.Test.YtebgaicapjpohaaDoorData
import Derived.Test.YtebgaicapjpohaaDoorShs
import Derived.LoopTactic
namespace Go.Proofs.YtebgaicapjpohaaDoor
set_option linter.unusedSimpArgs false
set_option linter.unusedVariables false
open Go Go.RowKit
set_option linter.unusedVariables false

def bs (l : List UInt8) : ByteArray := ⟨l.toArray⟩
theorem bs_data (l : List UInt8) : (bs l).data.toList = l := rfl
theorem bs_app (a b : List UInt8) : bs a ++ bs b = bs (a ++ b) := by
  apply ByteArray.ext
  apply Array.toList_inj.1
  simp [bs]
theorem bs_size (l : List UInt8) : (bs l).size = l.length := by show l.toArray.size = _; simp
theorem bs_of (b : ByteArray) : bs b.data.toList = b := by
  cases b; simp [bs]
/-- The byte k of a text. -/
def bt (s : List UInt8) (k : Nat) : UInt8 := s.getD k 0
theorem bs_get (s : List UInt8) (k : Nat) (h : k < (bs s).size) : (bs s)[k] = bt s k := by
  have hk : k < s.length := by rw [bs_size] at h; exact h
  unfold bt
  rw [List.getD, List.getElem?_eq_getElem hk]
  rfl
theorem bt_take {s : List UInt8} {k : Nat} (h : k < s.length) : s.take (k + 1) = s.take k ++ [bt s k] := by
  rw [List.take_succ_eq_append_getElem h]
  unfold bt
  simp [List.getD, h]
theorem bt_drop {s : List UInt8} {k : Nat} (h : k < s.length) : s.drop k = bt s k :: s.drop (k + 1) := by
  rw [List.drop_eq_getElem_cons h]
  unfold bt
  simp [List.getD, h]
theorem bs_ext (s : List UInt8) (a b : Nat) : (bs s).extract a b = bs ((s.drop a).take (b - a)) := by
  apply ByteArray.ext
  apply Array.toList_inj.1
  rw [ByteArray.data_extract]
  unfold bs
  simp [List.extract_eq_take_drop]
theorem u8_eq (c d : UInt8) : (c == d) = decide (c.toNat = d.toNat) := by
  by_cases h : c = d
  · subst h; simp
  · rw [beq_eq_false_iff_ne.2 h, decide_eq_false (fun e => h (UInt8.toNat_inj.1 e))]
theorem sepB_nat (c : UInt8) : sepB c = (decide (c.toNat = 32) || decide (c.toNat = 9) || decide (c.toNat = 13) || decide (c.toNat = 10)) := by
  unfold sepB
  rw [u8_eq, u8_eq, u8_eq, u8_eq]
  rfl
theorem sep_any (c : UInt8) (w : World) : Calls Tryd.prog 19 #[.int .u8 (c.toNat : Int)] w fun e w' => e = .returned (.bool (sepB c)) ∧ w' = w := by
  rw [sepB_nat]
  have hc := c.toNat_lt
  generalize c.toNat = n at *
  by_cases h1 : n = 32
  · subst h1; go_enter Tryd.func19, Tryd.ntmps19; go_wp2; go_ret; exact ⟨rfl, rfl⟩
  · by_cases h2 : n = 9
    · subst h2; go_enter Tryd.func19, Tryd.ntmps19; go_wp2; go_ret; exact ⟨rfl, rfl⟩
    · by_cases h3 : n = 13
      · subst h3; go_enter Tryd.func19, Tryd.ntmps19; go_wp2; go_ret; exact ⟨rfl, rfl⟩
      · by_cases h4 : n = 10
        · subst h4; go_enter Tryd.func19, Tryd.ntmps19; go_wp2; go_ret; exact ⟨rfl, rfl⟩
        · rw [decide_eq_false h1, decide_eq_false h2, decide_eq_false h3, decide_eq_false h4]
          go_enter Tryd.func19, Tryd.ntmps19
          go_wp2
          go_ret
          refine ⟨?_, rfl⟩
          simp [*]
          omega
theorem dig_any (c : UInt8) (w : World) : Calls Tryd.prog 36 #[.int .u8 (c.toNat : Int)] w fun e w' => e = .returned (.bool (digB c)) ∧ w' = w := by
  unfold digB
  have hc := c.toNat_lt
  generalize c.toNat = n at *
  by_cases h1 : 48 ≤ n
  · rw [decide_eq_true h1]
    by_cases h2 : n ≤ 57
    · rw [decide_eq_true h2]; go_enter Tryd.func36, Tryd.ntmps36; go_wp2; go_ret; refine ⟨?_, rfl⟩; simp [*]; omega
    · rw [decide_eq_false h2]; go_enter Tryd.func36, Tryd.ntmps36; go_wp2; go_ret; refine ⟨?_, rfl⟩; simp [*] <;> omega
  · rw [decide_eq_false h1]; go_enter Tryd.func36, Tryd.ntmps36; go_wp2; go_ret; exact ⟨rfl, rfl⟩
theorem trim_uns (s : List UInt8) : Lib.trimPrefix s [45] = unsP s := by
  cases s with
  | nil => rfl
  | cons c r =>
    by_cases h : c = 45
    · subst h; rfl
    · unfold Lib.trimPrefix Lib.hasPrefix unsP
      have : ([45] : List UInt8).isPrefixOf (c :: r) = false := by
        rw [List.isPrefixOf, beq_eq_false_iff_ne.2 (fun e => h e.symm)]; rfl
      rw [this]
      split
      · rename_i h2; cases h2
      · split
        · rename_i h2; injection h2 with h2; exact absurd h2 h
        · rfl
theorem unsP_le (s : List UInt8) : (unsP s).length ≤ s.length := by
  unfold unsP
  split
  · simp
  · omega

set_option maxHeartbeats 2000000 in
theorem numeric_any (s : List UInt8) (w : World) (hs : s.length ≤ 65536) :
    Calls Tryd.prog 27 #[.string (bs s)] w fun e w' => e = .returned (.bool (numB s)) ∧ w' = w := by
  have kt := fun W => Tryd.strings_TrimPrefix (bs s) ⟨#[45]⟩ W
  rw [show (bs s).data.toList = s from rfl, show (⟨#[45]⟩ : ByteArray).data.toList = [45] from rfl, trim_uns] at kt
  have hu := unsP_le s
  unfold numB
  generalize unsP s = u at *
  obtain ⟨S, hS⟩ : ∃ S, bs u = S := ⟨_, rfl⟩
  have kt' : ∀ W, Calls Tryd.prog 35 #[.string (bs s), .string ⟨#[45]⟩] W fun e w' => e = .returned (.string S) ∧ w' = W := by rw [← hS]; exact kt
  have KT := Lib.hid kt'
  have hz : S.size = u.length := by rw [← hS]; exact bs_size u
  have hget : ∀ k (h : k < S.size), S[k] = bt u k := by subst hS; exact fun k h => bs_get u k h
  have HG := Lib.hid hget
  have HEM := Lib.hid (show S.toList = [] ↔ u = [] by rw [← hS, Lib.toList_data, bs_data])
  clear kt kt' hget hS
  go_enter Tryd.func27, Tryd.ntmps27
  go_wp2_with fail
  refine (KT.out _).mono ?_
  rintro e w1 ⟨rfl, e1⟩
  subst w1
  go_wp2
  go_loopw [8] (fun i wr => ∃ k : Nat, k ≤ u.length ∧ i = .int .i64 k ∧ Hid ((u.take k).all digB = true) ∧ wr = w) (fun i _ => u.length - (intOf i).toNat)
  case atStart => exact ⟨0, by omega, rfl, Lib.hid rfl, rfl⟩
  case round =>
    obtain ⟨k, hk, rfl, HA, rfl⟩ := hrel
    by_cases hlt : k < u.length
    · have hlt' : k < S.size := by omega
      have hg := HG.out k hlt'
      have HX := Lib.hid hg
      clear hg
      cases hd : digB S[k] with
      | true =>
        have kd := fun W => dig_any S[k] W
        rw [hd] at kd
        have KD := Lib.hid kd
        have HD := Lib.hid hd
        clear kd hd
        go_wp2_with fail
        refine (KD.out _).mono ?_
        rintro e w2 ⟨rfl, e2⟩
        subst w2
        go_wp2
        go_roundw
        case rel =>
          refine ⟨k + 1, by omega, by go_num, Lib.hid ?_, trivial⟩
          rw [bt_take hlt, List.all_append, HA.out, ← HX.out]
          simp [HD.out]
        case measure => simp [intOf]; omega
      | false =>
        have kd := fun W => dig_any S[k] W
        rw [hd] at kd
        have KD := Lib.hid kd
        have HD := Lib.hid (show (u.all digB && decide (u ≠ [])) = false by
          have : u.all digB = false := by
            conv => lhs; rw [← List.take_append_drop k u, bt_drop hlt, List.all_append, List.all_cons, ← HX.out, hd]
            simp
          rw [this]; rfl)
        clear kd hd
        go_wp2_with fail
        refine (KD.out _).mono ?_
        rintro e w2 ⟨rfl, e2⟩
        subst w2
        go_wp2
        refine bodyPost_ret (v := .bool false) (by simp [results, Tryd.results27, go_sem, ↓IntWalk.iteOmega, *]) rfl ⟨by rw [HD.out], rfl⟩
    · obtain rfl : k = u.length := by omega
      rw [List.take_length] at HA
      have HB := Lib.hid (show (u.all digB && decide (u ≠ [])) = decide (u ≠ []) by rw [HA.out]; rfl)
      by_cases hn : u = []
      · have he := HEM.out.2 hn
        have HN := Lib.hid hn
        clear hn
        go_wp2
        refine bodyPost_ret (v := .bool false) (by simp [results, Tryd.results27, go_sem, ↓IntWalk.iteOmega, *]) rfl ⟨by rw [HB.out, HN.out]; rfl, rfl⟩
      · have he : ¬ S.toList = [] := fun h => hn (HEM.out.1 h)
        have HN := Lib.hid hn
        clear hn
        go_wp2
        refine bodyPost_ret (v := .bool true) (by simp [results, Tryd.results27, go_sem, ↓IntWalk.iteOmega, *]) rfl ⟨by rw [HB.out, decide_eq_true HN.out], rfl⟩
end Go.Proofs.YtebgaicapjpohaaDoor

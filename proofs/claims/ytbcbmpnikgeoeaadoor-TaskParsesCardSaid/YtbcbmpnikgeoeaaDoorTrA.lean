/- The reference's Digits. -/
import Derived.Test.YtbcbmpnikgeoeaaDoorTqB
import Derived.LoopTactic
namespace Go.Proofs.YtbcbmpnikgeoeaaDoor
set_option linter.unusedSimpArgs false
set_option linter.unusedVariables false
open Go Go.RowKit
open Go.Lib (itoa atoiAll)
set_option linter.unusedVariables false

/-- The byte k of a text. -/
def bt (s : List UInt8) (k : Nat) : UInt8 := s.getD k 0
theorem bs_get (s : List UInt8) (k : Nat) (h : k < (bs s).size) : (bs s)[k] = bt s k := by
  have hk : k < s.length := by rw [bs_size] at h; exact h
  unfold bt
  rw [List.getD, List.getElem?_eq_getElem hk]
  rfl
theorem bt_take {s : List UInt8} {k : Nat} (h : k < s.length) : s.take (k + 1) = s.take k ++ [bt s k] := by
  rw [List.take_succ_eq_append_getElem h]
  unfold bt
  simp [List.getD, h]
theorem bt_split {s : List UInt8} {k : Nat} (h : k < s.length) : s = s.take k ++ bt s k :: s.drop (k + 1) := by
  conv => lhs; rw [← List.take_append_drop k s, List.drop_eq_getElem_cons h]
  unfold bt
  simp [List.getD, h]
theorem bs_ext (s : List UInt8) (a b : Nat) : (bs s).extract a b = bs ((s.drop a).take (b - a)) := by
  apply ByteArray.ext
  apply Array.toList_inj.1
  rw [ByteArray.data_extract]
  unfold bs
  simp [List.extract_eq_take_drop]
theorem dval_snoc (acc : Nat) (l : List UInt8) (c : UInt8) : dval acc (l ++ [c]) = 10 * dval acc l + (c.toNat - 48) := by
  unfold dval
  rw [List.foldl_append]
  rfl
theorem numW_isSome (s : List UInt8) : (numW s).isSome = dgOk s := by
  unfold numW
  split
  · rename_i h; rw [h]; rfl
  · rename_i h; simp at h; rw [h]; rfl
/-- What Digits answers. -/
def DigRet (s : List UInt8) (w : World) (e : Ending) (w' : World) : Prop := (∃ n, e = .returned (.tuple #[.int .i64 n, .bool (numW s).isSome]) ∧ NumIs s n) ∧ Below w.heap.size w w'
theorem digRet_no {s : List UInt8} {w w' : World} {n : Int} (h : dgOk s = false) (hb : Below w.heap.size w w') : DigRet s w (.returned (.tuple #[.int .i64 n, .bool false])) w' :=
  ⟨⟨n, by rw [numW_isSome, h], fun m hm => by unfold numW at hm; rw [h] at hm; cases hm⟩, hb⟩
theorem digRet_yes {s : List UInt8} {w w' : World} (h : dgOk s = true) (hb : Below w.heap.size w w') : DigRet s w (.returned (.tuple #[.int .i64 (dval 0 s : Nat), .bool true])) w' :=
  ⟨⟨_, by rw [numW_isSome, h], fun m hm => by unfold numW at hm; rw [if_pos h] at hm; cases hm; rfl⟩, hb⟩
theorem dg_bad {s : List UInt8} {k : Nat} (hk : k < s.length) (h : isD (bt s k) = false) : dgOk s = false := by
  have : s.all isD = false := by
    rw [bt_split hk, List.all_append, List.all_cons, h]
    simp
  unfold dgOk
  rw [this]; rfl
theorem dg_long {s : List UInt8} (h : 7 < s.length) : dgOk s = false := by
  unfold dgOk
  rw [decide_eq_false (show ¬ s.length ≤ 7 by omega)]
  simp

set_option maxHeartbeats 2000000 in
theorem digits_any (s : List UInt8) (w : World) (hs : s.length ≤ 65536) :
    Calls Tryd.prog 69 #[.string (bs s)] w (DigRet s w) := by
  have hz := bs_size s
  have hget := fun k h => congrArg UInt8.toNat (bs_get s k h)
  have HG := Lib.hid hget
  have HEM := Lib.hid (show (bs s).toList.isEmpty = decide (s = []) by rw [Lib.toList_data, bs_data]; cases s <;> rfl)
  clear hget
  obtain ⟨S, hS⟩ : ∃ S, bs s = S := ⟨_, rfl⟩
  rw [hS] at hz HG HEM ⊢
  clear hS
  go_enter Tryd.func69, Tryd.ntmps69
  go_wp2
  go_loopw [4, 8] (fun n i wr => ∃ k : Nat, k ≤ s.length ∧ k ≤ 7 ∧ i = .int .i64 k ∧ n = .int .i64 (dval 0 (s.take k) : Nat) ∧ Hid ((s.take k).all isD = true) ∧ Below w.heap.size w wr) (fun _ i _ => s.length - (intOf i).toNat)
  case atStart => exact ⟨0, by omega, by omega, rfl, rfl, Lib.hid rfl, by repeat (first | exact Below.refl _ _ | refine below_dN ?_ _ | refine Below.drew ?_ | refine Below.alloc ?_ (by first | omega | (simp; done) | (simp; omega)) _ | refine Below.setCell ?_ (by first | omega | (simp; done) | (simp; omega)) _ | refine below_step (by assumption) (by first | omega | (simp; done) | (simp; omega)) ?_)⟩
  case round =>
    obtain ⟨k, hk, hk7, rfl, rfl, HA, hbel⟩ := hrel
    have hdv := dval_lt (s.take k) 0 HA.out
    have hp : 10 ^ (s.take k).length ≤ 10 ^ 7 := Nat.pow_le_pow_right (by omega) (by rw [List.length_take]; omega)
    have hd7 : dval 0 (s.take k) < 10000000 := by simp at hdv hp; omega
    clear hdv hp
    generalize hD : dval 0 (s.take k) = D at *
    have HD := Lib.hid hD
    clear hD
    by_cases hlt : k < s.length
    · have hlt' : k < S.size := by omega
      have hg := HG.out k hlt'
      have HX := Lib.hid hg
      clear hg
      by_cases e1 : (S[k].toNat : Int) < 48
      · have hb : isD (bt s k) = false := by unfold isD; rw [← HX.out]; simp; omega
        have HB := Lib.hid (dg_bad hlt hb)
        clear hb
        go_wp2
        refine bodyPost_ret (v := .tuple #[.int .i64 0, .bool false]) (by simp [results, Tryd.results69, go_sem, ↓IntWalk.iteOmega, *]) rfl (digRet_no HB.out (by repeat (first | exact Below.refl _ _ | refine below_dN ?_ _ | refine Below.drew ?_ | refine Below.alloc ?_ (by first | omega | (simp; done) | (simp; omega)) _ | refine Below.setCell ?_ (by first | omega | (simp; done) | (simp; omega)) _ | refine below_step (by assumption) (by first | omega | (simp; done) | (simp; omega)) ?_)))
      · by_cases e2 : 57 < (S[k].toNat : Int)
        · have hb : isD (bt s k) = false := by unfold isD; rw [← HX.out]; simp; omega
          have HB := Lib.hid (dg_bad hlt hb)
          clear hb
          go_wp2
          refine bodyPost_ret (v := .tuple #[.int .i64 0, .bool false]) (by simp [results, Tryd.results69, go_sem, ↓IntWalk.iteOmega, *]) rfl (digRet_no HB.out (by repeat (first | exact Below.refl _ _ | refine below_dN ?_ _ | refine Below.drew ?_ | refine Below.alloc ?_ (by first | omega | (simp; done) | (simp; omega)) _ | refine Below.setCell ?_ (by first | omega | (simp; done) | (simp; omega)) _ | refine below_step (by assumption) (by first | omega | (simp; done) | (simp; omega)) ?_)))
        · by_cases e3 : k = 7
          · have HB := Lib.hid (dg_long (s := s) (by omega))
            subst e3
            go_wp2
            refine bodyPost_ret (v := .tuple #[.int .i64 0, .bool false]) (by simp [results, Tryd.results69, go_sem, ↓IntWalk.iteOmega, *]) rfl (digRet_no HB.out (by repeat (first | exact Below.refl _ _ | refine below_dN ?_ _ | refine Below.drew ?_ | refine Below.alloc ?_ (by first | omega | (simp; done) | (simp; omega)) _ | refine Below.setCell ?_ (by first | omega | (simp; done) | (simp; omega)) _ | refine below_step (by assumption) (by first | omega | (simp; done) | (simp; omega)) ?_)))
          · go_wp2
            go_roundw
            case rel =>
              refine ⟨k + 1, by omega, by omega, by go_num, ?_, Lib.hid ?_, by repeat (first | exact Below.refl _ _ | refine below_dN ?_ _ | refine Below.drew ?_ | refine Below.alloc ?_ (by first | omega | (simp; done) | (simp; omega)) _ | refine Below.setCell ?_ (by first | omega | (simp; done) | (simp; omega)) _ | refine below_step (by assumption) (by first | omega | (simp; done) | (simp; omega)) ?_)⟩
              · rw [bt_take hlt, dval_snoc, HD.out, ← HX.out]
                refine congrArg (Value.int .i64) ?_
                omega
              · rw [bt_take hlt, List.all_append, HA.out]
                unfold isD
                simp [← HX.out]
                omega
            case measure => simp [intOf]; omega
    · obtain rfl : k = s.length := by omega
      rw [List.take_length] at HA HD
      have hdg : dgOk s = (decide (s ≠ []) && (decide (s.head? ≠ some 48) || decide (s.length = 1))) := by
        unfold dgOk
        rw [HA.out, decide_eq_true hk7]
        rfl
      by_cases hn : s = []
      · have HB := Lib.hid (show dgOk s = false by rw [hdg, decide_eq_false (by simpa using hn)]; rfl)
        have he := HEM.out
        rw [decide_eq_true hn] at he
        clear hdg hn
        go_wp2
        refine bodyPost_ret (v := .tuple #[.int .i64 (D : Nat), .bool false]) (by simp [results, Tryd.results69, go_sem, ↓IntWalk.iteOmega, *]) rfl (digRet_no HB.out (by repeat (first | exact Below.refl _ _ | refine below_dN ?_ _ | refine Below.drew ?_ | refine Below.alloc ?_ (by first | omega | (simp; done) | (simp; omega)) _ | refine Below.setCell ?_ (by first | omega | (simp; done) | (simp; omega)) _ | refine below_step (by assumption) (by first | omega | (simp; done) | (simp; omega)) ?_)))
      · have he := HEM.out
        rw [decide_eq_false hn] at he
        have hpos : 0 < s.length := by cases s with | nil => exact absurd rfl hn | cons x y => simp
        have hlt0 : 0 < S.size := by omega
        have hg := HG.out 0 hlt0
        have hh : s.head? = some (bt s 0) := by cases s with | nil => exact absurd rfl hn | cons x y => rfl
        rw [decide_eq_true hn, Bool.true_and, hh] at hdg
        have h48 : (some (bt s 0) ≠ some 48) ↔ S[0].toNat ≠ 48 := by
          rw [hg]
          constructor
          · intro h e; exact h (congrArg some (UInt8.toNat_inj.1 e))
          · intro h e; exact h (congrArg UInt8.toNat (Option.some.inj e))
        have e48 : decide (some (bt s 0) ≠ some 48) = decide (S[0].toNat ≠ 48) := decide_eq_decide.2 h48
        rw [e48] at hdg
        have HDG := Lib.hid hdg
        clear hdg hn hg hh h48 e48
        by_cases e0 : S[0].toNat = 48
        · by_cases e1 : s.length = 1
          · have HB := Lib.hid (show dgOk s = true by rw [HDG.out, decide_eq_true e1, Bool.or_true])
            go_wp2
            refine bodyPost_ret (v := .tuple #[.int .i64 (D : Nat), .bool true]) (by simp [results, Tryd.results69, go_sem, ↓IntWalk.iteOmega, *]) rfl (by have := digRet_yes HB.out (show Below w.heap.size w wr by repeat (first | exact Below.refl _ _ | refine below_dN ?_ _ | refine Below.drew ?_ | refine Below.alloc ?_ (by first | omega | (simp; done) | (simp; omega)) _ | refine Below.setCell ?_ (by first | omega | (simp; done) | (simp; omega)) _ | refine below_step (by assumption) (by first | omega | (simp; done) | (simp; omega)) ?_)); rw [HD.out] at this; exact this)
          · have e1' : ¬ (s.length : Int) = 1 := by omega
            have HB := Lib.hid (show dgOk s = false by rw [HDG.out, decide_eq_false e1, decide_eq_false (by simpa using e0)]; rfl)
            go_wp2
            refine bodyPost_ret (v := .tuple #[.int .i64 (D : Nat), .bool false]) (by simp [results, Tryd.results69, go_sem, ↓IntWalk.iteOmega, *]) rfl (digRet_no HB.out (by repeat (first | exact Below.refl _ _ | refine below_dN ?_ _ | refine Below.drew ?_ | refine Below.alloc ?_ (by first | omega | (simp; done) | (simp; omega)) _ | refine Below.setCell ?_ (by first | omega | (simp; done) | (simp; omega)) _ | refine below_step (by assumption) (by first | omega | (simp; done) | (simp; omega)) ?_)))
        · have HB := Lib.hid (show dgOk s = true by rw [HDG.out, decide_eq_true e0]; rfl)
          go_wp2
          refine bodyPost_ret (v := .tuple #[.int .i64 (D : Nat), .bool true]) (by simp [results, Tryd.results69, go_sem, ↓IntWalk.iteOmega, *]) rfl (by have := digRet_yes HB.out (show Below w.heap.size w wr by repeat (first | exact Below.refl _ _ | refine below_dN ?_ _ | refine Below.drew ?_ | refine Below.alloc ?_ (by first | omega | (simp; done) | (simp; omega)) _ | refine Below.setCell ?_ (by first | omega | (simp; done) | (simp; omega)) _ | refine below_step (by assumption) (by first | omega | (simp; done) | (simp; omega)) ?_)); rw [HD.out] at this; exact this)
end Go.Proofs.YtbcbmpnikgeoeaaDoor

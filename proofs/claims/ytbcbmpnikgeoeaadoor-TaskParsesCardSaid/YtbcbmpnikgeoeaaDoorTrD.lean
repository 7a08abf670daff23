/- The reference's list, condition. -/
import Derived.Test.YtbcbmpnikgeoeaaDoorTrC
namespace Go.Proofs.YtbcbmpnikgeoeaaDoor
set_option linter.unusedSimpArgs false
set_option linter.unusedVariables false
open Go Go.RowKit
set_option linter.unusedVariables false

theorem lineW_pcs {word line x : List UInt8} {ws : List (List UInt8)} (h : pcs 32 line = x :: ws) : lineW word line = if x = word then some ws else none := by
  unfold lineW isW
  rw [h]
  by_cases e : x = word
  · rw [if_pos e, if_pos (by simp [e])]; rfl
  · rw [if_neg e, if_neg (by simp [e])]
def RListRet (word line : List UInt8) (w : World) (e : Ending) (w' : World) : Prop :=
  (∃ A' c' xs, e = .returned (.tuple #[.slice A' xs.length c', .bool ((lineW word line).bind numsW).isSome]) ∧ (A' = none → c' = 0) ∧ (∀ f, (lineW word line).bind numsW = some f → xs = f) ∧ Itf w' (fun g => g < w.heap.size) A' xs) ∧ Below w.heap.size w w'
def RCondRet (word line : List UInt8) (w : World) (e : Ending) (w' : World) : Prop :=
  (∃ A' c' xs, e = .returned (.tuple #[.slice A' xs.length c', .bool ((lineW word line).bind facsW).isSome]) ∧ (A' = none → c' = 0) ∧ (∀ f, (lineW word line).bind facsW = some f → xs = f) ∧ Fac w' (fun g => g < w.heap.size) A' xs) ∧ Below w.heap.size w w'
theorem rlist_no {word line : List UInt8} {w w' : World} {x : List UInt8} {ws : List (List UInt8)} (h : pcs 32 line = x :: ws) (hn : numsW ws = none) (hb : Below w.heap.size w w') : RListRet word line w (.returned (.tuple #[.slice none 0 0, .bool false])) w' := by
  have e : (lineW word line).bind numsW = none := by
    rw [lineW_pcs h]
    split
    · exact hn
    · rfl
  exact ⟨⟨none, 0, [], by rw [e]; rfl, fun _ => rfl, (fun f hf => by rw [e] at hf; cases hf), by simp, fun hn => absurd hn (by simp)⟩, hb⟩
theorem rlist_yes {word line : List UInt8} {w w' : World} {x : List UInt8} {ws : List (List UInt8)} {xs : List Int} {A' : Option Addr} {c' : Nat} (h : pcs 32 line = x :: ws) (hn : numsW ws = some xs) (hA : A' = none → c' = 0) (hi : Itf w' (fun g => g < w.heap.size) A' xs) (hb : Below w.heap.size w w') :
    RListRet word line w (.returned (.tuple #[.slice A' xs.length c', .bool (decide (x = word))])) w' := by
  refine ⟨⟨A', c', xs, ?_, hA, ?_, hi⟩, hb⟩
  · rw [lineW_pcs h]
    by_cases e : x = word
    · rw [if_pos e, decide_eq_true e, Option.bind_some, hn]; rfl
    · rw [if_neg e, decide_eq_false e]; rfl
  · intro f hf
    rw [lineW_pcs h] at hf
    split at hf
    · rw [Option.bind_some, hn] at hf; cases hf; rfl
    · cases hf
/-- The words behind the first. -/
theorem strs_tail {w : World} {bad : Nat → Prop} {b off c : Nat} {x : List UInt8} {ws : List (List UInt8)} (h : StrsAt w bad (some ⟨b, off, none⟩) (x :: ws)) (hc : (x :: ws).length ≤ c) :
    StrsAt w bad (if c = 1 then some ⟨b, off, none⟩ else some ⟨b, off + 1, none⟩) ws := by
  by_cases e : c = 1
  · have : ws = [] := by
      rw [List.length_cons] at hc
      exact List.length_eq_zero_iff.1 (by omega)
    subst this
    exact StrsAt.nil _ _ _
  · rw [if_neg e]
    exact h.drop 1

set_option maxRecDepth 20000 in
set_option maxHeartbeats 4000000 in
theorem rlist_any (line word : List UInt8) (w : World) (hs : line.length ≤ 65536) :
    Calls Tryd.prog 49 #[.string (bs line), .string (bs word)] w (RListRet word line w) := by
  have k1 := rwords_any line w hs
  obtain ⟨s1, s2⟩ := pcs_small 32 _ line (Nat.le_refl _)
  obtain ⟨x, ws, hws⟩ : ∃ x ws, pcs 32 line = x :: ws := by
    cases h : pcs 32 line with
    | nil => exact absurd h (pcs_ne 32 line)
    | cons x ws => exact ⟨x, ws, rfl⟩
  rw [hws] at k1 s1 s2
  have hbq := beq_bs x word
  have HW := Lib.hid hws
  have K1 := Lib.hid k1
  have S2 := Lib.hid s2
  have HBQ := Lib.hid hbq
  clear hws k1 s2 hbq
  obtain ⟨inf, hi, iz0, iz1, iz2⟩ := info_parts qinfoI
  rw [List.length_cons] at s1
  go_enter Tryd.func49, Tryd.ntmps49
  go_wp2_with fail
  refine K1.out.mono ?_
  rintro e w1 ⟨⟨v, rfl, hgot⟩, hb1⟩
  obtain ⟨A1, c1, rfl, hc1, hst⟩ := gotStrs hgot (by rw [List.length_cons]; omega) (fun p hp => Nat.le_trans (S2.out p hp) hs)
  obtain ⟨b1, off1, rfl, hbl, hbn, hcx⟩ := hst.at_ (k := 0) (by simp)
  rw [show txt (x :: ws) 0 = x from rfl, Nat.add_zero] at hcx
  have htl := strs_tail hst hc1
  rw [List.length_cons] at hc1
  have hz1 := hb1.size
  have HTL := Lib.hid htl
  have HB1 := Lib.hid hb1
  have HCX := Lib.hid hcx
  clear hgot hst htl hb1 hcx
  simp only [List.length_cons] at *
  by_cases hc : c1 = 1
  · subst hc
    obtain rfl : ws = [] := List.length_eq_zero_iff.1 (by omega)
    simp only [List.length_nil] at *
    go_wp2
    refine wp_loop_rounds 1 ?_
    rw [rounds_succ]
    have hcx := HCX.out
    have hbq := HBQ.out
    go_wp2_with fail
    go_quiet (fail)
    go_wp2
    refine bodyPost_ret (v := .tuple #[.slice none 0 0, .bool (decide (x = word))]) (by simp [results, Tryd.results49, go_sem, ↓IntWalk.iteOmega, *]) rfl (rlist_yes (xs := []) HW.out rfl (fun _ => rfl) ⟨by simp, fun hn => absurd hn (by simp)⟩ (below_dN HB1.out nq))
  · have htl := HTL.out
    rw [if_neg hc] at htl
    have HTL2 := Lib.hid htl
    clear htl
    go_wp2
    go_loopw [7, 17] (fun v i wr => ∃ (k : Nat) (xs : List Int), k ≤ ws.length ∧ i = .int .i64 k ∧ wr.ownsRow w1.heap.size 3 1 v k (ic xs) ∧ Hid (xs.length = k) ∧ Hid (numsW (ws.take k) = some xs) ∧ Below w1.heap.size w1 wr) (fun _ i _ => ws.length - (intOf i).toNat)
    case atStart => exact ⟨0, [], by omega, rfl, World.ownsRow_nil _ _ _ _, Lib.hid rfl, Lib.hid rfl, Below.refl _ _⟩
    case round =>
      obtain ⟨k, xs, hk, rfl, hown, HLN, HIS, hbel⟩ := hrel
      have hbz := hbel.size
      have HO := Lib.hid hown
      have HB := Lib.hid hbel
      clear hown hbel
      by_cases hlt : k < ws.length
      · have hst := HTL2.out.move (Moves.up HB.out)
        obtain ⟨b', o', e', hbA, _, d1⟩ := hst.at_ hlt
        injection e' with e'
        injection e' with e1 e2 _
        subst e1 e2
        have hsm := hst.small hlt
        have hm := txt_mem hlt
        have HM := Lib.hid hm
        have kd := digits_any (txt ws k) wr hsm
        have KD := Lib.hid kd
        clear hst hm kd
        go_wp2_with fail
        refine KD.out.mono ?_
        rintro e w2 ⟨⟨n, rfl, hn⟩, hb2⟩
        have hz2 := hb2.size
        have ho2 := own_below HO.out hb2
        have hb12 := HB.out.trans (hb2.mono hbz)
        cases hs : (numW (txt ws k)).isSome with
        | false =>
          have hno : numsW ws = none := numsW_bad HM.out (by cases e : numW (txt ws k) with | none => rfl | some z => rw [e] at hs; cases hs)
          have HN := Lib.hid hno
          have HB2 := Lib.hid (HB1.out.trans (hb12.mono hz1))
          clear hno hs hn ho2 hb12 hb2
          go_wp2
          refine bodyPost_ret (v := .tuple #[.slice none 0 0, .bool false]) (by simp [results, Tryd.results49, go_sem, ↓IntWalk.iteOmega, *]) rfl (rlist_no HW.out HN.out HB2.out)
        | true =>
          have hnx := numsW_next hlt HIS.out hn hs
          have HNX := Lib.hid hnx
          have HB2 := Lib.hid hb12
          have HO2 := Lib.hid ho2
          clear hnx hs hn ho2 hb12 hb2
          go_wp2_with (at_builtin; refine wpList_push rfl _ _ 23 rfl w1.heap.size 3 inf (.int .i64 0) 1 8 qundI hi iz0 iz1 iz2 rfl (by decide) (by decide) _ k (ic xs) rfl (HO2.out.alloc _) w2.heap.size 3 [.int .i64 n] rfl rfl (heap_alloc_new _ _) (one_one rfl) (by omega) (by first | omega | (simp; omega)) (B := w1.heap.size) (W := w1) (HB2.out.alloc (by omega) _) (by omega) ?_; intro v' w8 hown' hgrow hat hbw8)
          go_roundw
          case rel => exact ⟨k + 1, _, by omega, by go_num, by rw [← ic_push]; exact hown', Lib.hid (by rw [List.length_append, HLN.out]; rfl), HNX, hbw8⟩
          case measure => simp [intOf]; omega
      · obtain rfl : k = ws.length := by omega
        have his := HIS.out
        rw [List.take_length] at his
        obtain ⟨A', c', e1, e2, e3⟩ := own_itf (bad := fun b => b < w.heap.size) HO.out HLN.out.symm (by rw [HLN.out]; omega) (fun g h1 h2 h3 => by omega)
        subst e1
        have HISS := Lib.hid his
        have HE := Lib.hid (⟨e2, e3⟩ : (A' = none → c' = 0) ∧ _)
        have hcx := (HB.out.cell (p := ⟨b1, off1, none⟩) hbl).trans HCX.out
        have hbq := HBQ.out
        have HBB := Lib.hid (HB1.out.trans (HB.out.mono hz1))
        clear his e2 e3
        go_wp2_with fail
        go_quiet (fail)
        go_wp2
        refine bodyPost_ret (v := .tuple #[.slice A' xs.length c', .bool (decide (x = word))]) (by simp [results, Tryd.results49, go_sem, ↓IntWalk.iteOmega, *]) rfl (rlist_yes HW.out HISS.out HE.out.1 (HE.out.2.move (Moves.up (below_dN (Below.refl _ _) nq))) (below_dN HBB.out nq))
theorem rcond_of {word line : List UInt8} {w w' : World} {x : List UInt8} {ws : List (List UInt8)} {xs : List (Int × Int)} {A' : Option Addr} {c' : Nat} {b : Bool} (h : pcs 32 line = x :: ws) (hn : ∀ f, facsW ws = some f → xs = f) (hb0 : b = ((facsW ws).isSome && decide (x = word))) (hA : A' = none → c' = 0) (hi : Fac w' (fun g => g < w.heap.size) A' xs) (hb : Below w.heap.size w w') :
    RCondRet word line w (.returned (.tuple #[.slice A' xs.length c', .bool b])) w' := by
  refine ⟨⟨A', c', xs, ?_, hA, ?_, hi⟩, hb⟩
  · rw [hb0, lineW_pcs h]
    by_cases e : x = word
    · rw [if_pos e, decide_eq_true e, Option.bind_some, Bool.and_true]
    · rw [if_neg e, decide_eq_false e, Bool.and_false]; rfl
  · intro f hf
    rw [lineW_pcs h] at hf
    split at hf
    · exact hn f hf
    · cases hf

set_option maxRecDepth 20000 in
set_option maxHeartbeats 4000000 in
theorem rcond_any (line word : List UInt8) (w : World) (hs : line.length ≤ 65536) :
    Calls Tryd.prog 50 #[.string (bs line), .string (bs word)] w (RCondRet word line w) := by
  have k1 := rwords_any line w hs
  obtain ⟨s1, s2⟩ := pcs_small 32 _ line (Nat.le_refl _)
  obtain ⟨x, ws, hws⟩ : ∃ x ws, pcs 32 line = x :: ws := by
    cases h : pcs 32 line with
    | nil => exact absurd h (pcs_ne 32 line)
    | cons x ws => exact ⟨x, ws, rfl⟩
  rw [hws] at k1 s1 s2
  have hbq := beq_bs x word
  have HW := Lib.hid hws
  have K1 := Lib.hid k1
  have S2 := Lib.hid s2
  have HBQ := Lib.hid hbq
  clear hws k1 s2 hbq
  rw [List.length_cons] at s1
  go_enter Tryd.func50, Tryd.ntmps50
  go_wp2_with fail
  refine K1.out.mono ?_
  rintro e w1 ⟨⟨v, rfl, hgot⟩, hb1⟩
  obtain ⟨A1, c1, rfl, hc1, hst⟩ := gotStrs hgot (by rw [List.length_cons]; omega) (fun p hp => Nat.le_trans (S2.out p hp) hs)
  obtain ⟨b1, off1, rfl, hbl, hbn, hcx⟩ := hst.at_ (k := 0) (by simp)
  rw [show txt (x :: ws) 0 = x from rfl, Nat.add_zero] at hcx
  have htl := strs_tail hst hc1
  rw [List.length_cons] at hc1
  have hz1 := hb1.size
  have k2 := fun A c (h : (if c1 = 1 then some ⟨b1, off1, none⟩ else some ⟨b1, off1 + 1, none⟩) = A) => rfacts_any ws A c w1 (by rw [← h]; exact htl.move (Moves.mono fun g _ h => absurd h id))
  have K2 := Lib.hid k2
  have HB1 := Lib.hid hb1
  have HCX := Lib.hid hcx
  clear hgot hst htl hb1 hcx k2
  simp only [List.length_cons] at *
  by_cases hc : c1 = 1
  case' pos => have k3 := K2.out (some ⟨b1, off1, none⟩) (c1 - 1) (if_pos hc)
  case' neg => have k3 := K2.out (some ⟨b1, off1 + 1, none⟩) (c1 - 1) (if_neg hc)
  case' pos =>
    subst hc
    obtain rfl : ws = [] := List.length_eq_zero_iff.1 (by omega)
    simp only [List.length_nil] at *
  all_goals
    have K3 := Lib.hid k3
    clear k3
    go_wp2_with fail
    refine K3.out.mono ?_
    rintro e w2 ⟨⟨A', c', xs, rfl, hA, hx, hf⟩, hb2⟩
    have hz2 := hb2.size
    have hcx := (hb2.cell (p := ⟨b1, off1, none⟩) hbl).trans HCX.out
    have hbq := HBQ.out
    have HB2 := Lib.hid (HB1.out.trans (hb2.mono hz1))
    have HX := Lib.hid hx
    have HAF := Lib.hid (⟨hA, hf.move (Moves.mono (bad' := fun g => g < w.heap.size) fun g _ h => by have : g < w.heap.size := h; show g < w1.heap.size; omega)⟩ : (A' = none → c' = 0) ∧ _)
    clear hA hf hx hb2 K3
    cases hok : (facsW _).isSome
    all_goals
      have HOK := Lib.hid hok
      clear hok
      go_wp2_with fail
      go_quiet (fail)
      go_wp2
      refine bodyPost_ret (v := .tuple #[.slice A' xs.length c', .bool _]) (by simp [results, Tryd.results50, go_sem, ↓IntWalk.iteOmega, *]; rfl) rfl (rcond_of HW.out HX.out (by rw [HOK.out]; simp) HAF.out.1 (HAF.out.2.move (Moves.up (below_dN (Below.refl _ _) nq))) (below_dN HB2.out nq))
end Go.Proofs.YtbcbmpnikgeoeaaDoor

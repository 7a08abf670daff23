/- The reference's Words, Lines. -/
import Derived.Test.YtbcbmpnikgeoeaaDoorMpA
import Derived.Test.YtbcbmpnikgeoeaaDoorTrB
import Derived.Test.YtbcbmpnikgeoeaaDoorTqH
import Derived.Deep.DeepCutAuto
namespace Go.Proofs.YtbcbmpnikgeoeaaDoor
set_option linter.unusedSimpArgs false
set_option linter.unusedVariables false
open Go Go.RowKit
set_option linter.unusedVariables false

def lastP (l : List (List UInt8)) : List UInt8 := l.getLast?.getD []
theorem lastP_snoc (l : List (List UInt8)) (x : List UInt8) : lastP (l ++ [x]) = x := by unfold lastP; simp
theorem lastP_cons (x : List UInt8) {l : List (List UInt8)} (h : l ≠ []) : lastP (x :: l) = lastP l := by
  unfold lastP
  cases l with
  | nil => exact absurd rfl h
  | cons y r => simp [List.getLast?_cons_cons]
theorem dl_last {l : List (List UInt8)} (h : l ≠ []) : l.dropLast ++ [lastP l] = l := by
  have := List.dropLast_concat_getLast h
  unfold lastP
  rw [List.getLast?_eq_some_getLast h]
  exact this
theorem pcs_sep {c : UInt8} : ∀ (a : List UInt8), pcs c (a ++ [c]) = pcs c a ++ [[]]
  | [] => by show pcs c [c] = _; simp [pcs]
  | y :: a => by
    rw [List.cons_append, pcs, pcs_sep a, pcs]
    split
    · rfl
    · have h := pcs_ne c a
      cases e : pcs c a with
      | nil => exact absurd e h
      | cons p r => rfl
theorem pcs_snoc {c x : UInt8} (hx : x ≠ c) : ∀ (a : List UInt8), pcs c (a ++ [x]) = (pcs c a).dropLast ++ [lastP (pcs c a) ++ [x]]
  | [] => by rw [List.nil_append, pcs_no [x] (by simp; exact fun e => hx e.symm)]; rfl
  | y :: a => by
    rw [List.cons_append, pcs, pcs_snoc hx a, pcs]
    have h := pcs_ne c a
    cases e : pcs c a with
    | nil => exact absurd e h
    | cons p r =>
      split
      · rw [lastP_cons [] (List.cons_ne_nil p r)]
        simp
      · cases r with
        | nil => simp [lastP]
        | cons q r =>
          rw [lastP_cons p (List.cons_ne_nil q r)]
          show (y :: p) :: ((q :: r).dropLast ++ [lastP (q :: r) ++ [x]]) = ((y :: p) :: q :: r).dropLast ++ [lastP ((y :: p) :: q :: r) ++ [x]]
          rw [lastP_cons (y :: p) (List.cons_ne_nil q r)]
          rfl
theorem set_last {α : Type} {l : List α} (h : l ≠ []) (u : α) : l.set (l.length - 1) u = l.dropLast ++ [u] := by
  conv => lhs; rw [← List.dropLast_concat_getLast h]
  rw [List.set_append_right _ _ (by simp)]
  simp
theorem own_setAt {w : World} {B n cap g i : Nat} {e : TypeId} {xs : List Value} (h : w.ownsRow B e 1 (.slice (some ⟨g, 0, none⟩) n cap) n xs) (hi : i < n) (u : Value) :
    (w.setCell ⟨g, i, none⟩ u).ownsRow B e 1 (.slice (some ⟨g, 0, none⟩) n cap) n (xs.set i u) := by
  rcases h.2 with ⟨h0, _⟩ | ⟨b, cap', cur, h1, hb, hg, hnc, hcm, hcs, htk⟩
  · cases h0
  · injection h1 with h1 h2 h3
    injection h1 with h1
    injection h1 with h1 _ _
    subst h1 h3
    refine ⟨by rw [List.length_set]; exact h.1, .inr ⟨g, cap, cur.setIfInBounds i u, rfl, hb, ?_, hnc, hcm, by simpa using hcs, ?_⟩⟩
    · simp [World.setCell, Array.getElem?_modify, hg]
    · rw [Array.toList_setIfInBounds, List.take_set, htk]
theorem strV_app (a b : List (List UInt8)) : strV (a ++ b) = strV a ++ strV b := by unfold strV; rw [List.map_append]
theorem strV_len (a : List (List UInt8)) : (strV a).length = a.length := by unfold strV; rw [List.length_map]
theorem qinfoS : (Tryd.prog.info? 9).map (fun i => (i.zero, i.size, i.bytes)) = some (some (.string ByteArray.empty), 1, 16) := by kernel_rfl
theorem qundS : Tryd.prog.underlying 58 = some (.slice 9) := by kernel_rfl
theorem strV_set {l : List (List UInt8)} (h : l ≠ []) (x : List UInt8) : (strV l).set (l.length - 1) (.string (bs x)) = strV (l.dropLast ++ [x]) := by
  have hn : strV l ≠ [] := fun e => h (List.map_eq_nil_iff.1 e)
  rw [← strV_len l, set_last hn, strV_app]
  unfold strV
  rw [List.map_dropLast]
  rfl
theorem strV_last {l : List (List UInt8)} (h : l ≠ []) : (strV l)[l.length - 1]? = some (.string (bs (lastP l))) := by
  have e := dl_last h
  have hl : l.length - 1 = l.dropLast.length := by simp
  rw [hl]
  conv => lhs; rw [← e]
  rw [strV_app, List.dropLast_concat, List.getElem?_append_right (by rw [strV_len]; omega), strV_len, Nat.sub_self]
  rfl
theorem take1 {s : List UInt8} {k : Nat} (h : k < s.length) : (s.drop k).take 1 = [bt s k] := by
  rw [List.drop_eq_getElem_cons h, List.take_succ_cons, List.take_zero]
  unfold bt
  rw [List.getD, List.getElem?_eq_getElem h]
  rfl
theorem lastP_small {c : UInt8} (s : List UInt8) : (lastP (pcs c s)).length ≤ s.length := by
  have h := pcs_ne c s
  have e := dl_last h
  have hm : lastP (pcs c s) ∈ (pcs c s).dropLast ++ [lastP (pcs c s)] := by simp
  rw [e] at hm
  exact (pcs_small c _ s (Nat.le_refl _)).2 _ hm
/-- A row of texts that a call hands out. -/
def GotStrs (B : Nat) (l : List (List UInt8)) (w : World) (v : Value) : Prop := w.ownsRow B 9 1 v l.length (strV l)
theorem gotStrs {B : Nat} {l : List (List UInt8)} {w : World} {v : Value} (h : GotStrs B l w v) (h1 : l.length ≤ 65537) (h2 : ∀ s ∈ l, s.length ≤ 65536) : ∃ A c, v = .slice A l.length c ∧ l.length ≤ c ∧ StrsAt w (fun g => g < B) A l := by
  rcases h.2 with ⟨rfl, h0⟩ | ⟨b, cap, cur, rfl, hb, hg, hh⟩
  · exact ⟨none, 0, by rw [h0], by omega, h1, h2, fun hn => absurd hn (by omega)⟩
  · refine ⟨_, cap, rfl, hh.1, h1, h2, fun _ => ⟨b, 0, rfl, (Array.getElem?_eq_some_iff.1 hg).1, fun h => by omega, fun k hk => ?_⟩⟩
    have := own_cell h (i := k) (u := .string (bs (txt l k))) (by unfold strV txt; simp [List.getD, List.getElem?_eq_getElem hk])
    simpa using this

set_option maxRecDepth 20000 in
set_option maxHeartbeats 4000000 in
theorem rwords_any (s : List UInt8) (w : World) (hs : s.length ≤ 65536) :
    Calls Tryd.prog 68 #[.string (bs s)] w fun e w' => (∃ v, e = .returned v ∧ GotStrs w.heap.size (pcs 32 s) w' v) ∧ Below w.heap.size w w' := by
  have hz := bs_size s
  have hget := fun k h => congrArg UInt8.toNat (bs_get s k h)
  have hex := bs_ext s
  have HG := Lib.hid hget
  have HX := Lib.hid hex
  clear hget hex
  obtain ⟨inf, hi, iz0, iz1, iz2⟩ := info_parts qinfoS
  obtain ⟨S, hS⟩ : ∃ S, bs s = S := ⟨_, rfl⟩
  rw [hS] at hz HG HX ⊢
  clear hS
  go_enter Tryd.func68, Tryd.ntmps68
  go_wp2
  go_loopw [3, 8] (fun v i wr => ∃ k : Nat, k ≤ s.length ∧ i = .int .i64 k ∧ Hid (GotStrs w.heap.size (pcs 32 (s.take k)) wr v) ∧ Below w.heap.size w wr) (fun _ i _ => s.length - (intOf i).toNat)
  case atStart => exact ⟨0, by omega, rfl, Lib.hid (own_built w #[.string (bs [])] 1 (Nat.le_refl _) (by simp [maxLen]) rfl), by repeat (first | exact Below.refl _ _ | refine below_dN ?_ _ | refine Below.drew ?_ | refine Below.alloc ?_ (by first | omega | (simp; done) | (simp; omega)) _ | refine Below.setCell ?_ (by first | omega | (simp; done) | (simp; omega)) _ | refine below_step (by assumption) (by first | omega | (simp; done) | (simp; omega)) ?_)⟩
  case round =>
    obtain ⟨k, hk, rfl, HO, hbel⟩ := hrel
    have hbz := hbel.size
    have HB := Lib.hid hbel
    clear hbel
    have hpl := (pcs_small 32 _ (s.take k) (Nat.le_refl _)).1
    have htl : (s.take k).length = k := by rw [List.length_take]; omega
    rw [htl] at hpl
    by_cases hlt : k < s.length
    · have hlt' : k < S.size := by omega
      have hg := HG.out k hlt'
      have HGK := Lib.hid hg
      clear hg htl
      by_cases e1 : (S[k].toNat : Int) = 32
      · have hb : bt s k = 32 := UInt8.toNat_inj.1 (by rw [← HGK.out]; show S[k].toNat = 32; omega)
        have hn : pcs 32 (s.take (k + 1)) = pcs 32 (s.take k) ++ [[]] := by rw [bt_take hlt, hb, pcs_sep]
        have HN := Lib.hid hn
        clear hn hb
        go_wp2_with (at_builtin; refine wpList_push rfl _ _ 58 rfl w.heap.size 9 inf (.string ByteArray.empty) 1 16 qundS hi iz0 iz1 iz2 rfl (by decide) (by decide) _ (pcs 32 (s.take k)).length (strV (pcs 32 (s.take k))) rfl (HO.out.alloc _) wr.heap.size 9 [.string (bs [])] rfl rfl (heap_alloc_new _ _) (one_one rfl) (by omega) (by first | omega | (simp; omega)) (B := w.heap.size) (W := w) (HB.out.alloc (by omega) _) (by omega) ?_; intro v' w8 hown' hgrow hat hbw8)
        go_roundw
        case rel => exact ⟨k + 1, by omega, by go_num, Lib.hid (by unfold GotStrs; rw [HN.out, List.length_append, strV_app]; exact hown'), hbw8⟩
        case measure => simp [intOf]; omega
      · have hb : bt s k ≠ 32 := fun h => e1 (by have := HGK.out; rw [h] at this; rw [this]; rfl)
        have hne := pcs_ne 32 (s.take k)
        have hn : pcs 32 (s.take (k + 1)) = (pcs 32 (s.take k)).dropLast ++ [lastP (pcs 32 (s.take k)) ++ [bt s k]] := by rw [bt_take hlt, pcs_snoc hb]
        have hz2 := lastP_small (c := 32) (s.take k)
        rw [show (s.take k).length = k by rw [List.length_take]; omega] at hz2
        have hlast := strV_last hne
        have hx1 := HX.out k (k + 1)
        rw [show k + 1 - k = 1 by omega, take1 hlt] at hx1
        have hpos : 0 < (pcs 32 (s.take k)).length := List.length_pos_iff.2 hne
        generalize pcs 32 (s.take k) = Pl at *
        obtain ⟨m, hm⟩ : ∃ m, Pl.length = m + 1 := ⟨Pl.length - 1, by omega⟩
        obtain ⟨AO, cO, rfl⟩ := own_shape HO.out
        obtain ⟨g, rfl, hg1, hg2, hfz⟩ := own_frozen HO.out hpos
        have hc := own_cell HO.out hlast
        rw [hm, Nat.add_sub_cancel] at hc
        have hf := hfz m
        have hsz := bs_size (lastP Pl)
        have hs1 := bs_size [bt s k]
        rw [List.length_singleton] at hs1
        have hcat := bs_app (lastP Pl) [bt s k]
        have HN := Lib.hid hn
        have HM := Lib.hid hm
        have HNE := Lib.hid hne
        have HCAT := Lib.hid hcat
        rw [hm] at hpl
        clear hn hm hlast hfz hcat hne hpos hb
        go_wp2_with fail
        rw [HM.out]
        have hw1 : IntKind.i64.wrap (m : Int) = m := IntWalk.i64_in _ (by omega)
        have hw2 : IntKind.i64.wrap ((k : Int) + 1) = k + 1 := IntWalk.i64_in _ (by omega)
        have hw3 : ((k : Int) + 1).toNat = k + 1 := by omega
        refine wp_region_G 13 (fun w' => w'.cell? ⟨g, m, none⟩ = some (.string (bs (lastP Pl)))) (by kernel_rfl) (by simpa using hc) ?_
        intro hG0
        refine wpS1 0 hG0 ?_; intro hG1; clear hG0
        refine wpS1 1 hG1 ?_; intro hG2; clear hG1
        refine wpS1 2 hG2 ?_; intro hG3; clear hG2
        refine wpS1 3 hG3 ?_; intro hG4; clear hG3
        refine wpS1 4 hG4 ?_; intro hG5; clear hG4
        refine wpS2 5 hG5 ?_; intro hG6; clear hG5
        refine wpS1 6 hG6 ?_; intro hG7; clear hG6
        refine wpS1 7 hG7 ?_; intro hG8; clear hG7
        refine wpS1 8 hG8 ?_; intro hG9; clear hG8
        refine wpS1 9 hG9 ?_; intro hG10; clear hG9
        refine wpS1 10 hG10 ?_; intro hG11; clear hG10
        refine wpS1 11 hG11 ?_; intro hG12; clear hG11
        refine wpS1 12 hG12 ?_; intro hG13; clear hG12
        refine wpAnyG_ready (rs := [13]) (by kernel_rfl) (by simp) (AllG.cons rfl hG13 (fun K hK => ?_) AllG.nil)
        (go_simp)
        refine hK.out _ _ (Or.inl rfl) (fun hG14 => wpN ?_); clear hK hG13
        refine wpAnyG_done (by kernel_rfl) ?_ _; clear hG14
        go_wp2
        rw [HCAT.out]
        refine ⟨⟨k + 1, by omega, by go_num, Lib.hid ?_, ?_⟩, by simp [intOf]; omega⟩
        · have ho := HO.out
          unfold GotStrs at ho ⊢
          have hl : (Pl.dropLast ++ [lastP Pl ++ [bt s k]]).length = m + 1 := by simp [HM.out]
          rw [HN.out, hl, ← strV_set HNE.out]
          rw [HM.out] at ho ⊢
          rw [Nat.add_sub_cancel]
          exact own_setAt ho (by omega) _
        · exact (HB.out.setCell (p := ⟨g, m, none⟩) hg1 _).drew
    · obtain rfl : k = s.length := by omega
      rw [List.take_length] at HO
      go_wp2
      go_ret
      exact ⟨⟨_, rfl, HO.out⟩, HB.out⟩
theorem pcs_nil (c : UInt8) : pcs c [] = [[]] := rfl
set_option maxRecDepth 20000 in
set_option maxHeartbeats 4000000 in
theorem rlines_any (s : List UInt8) (w : World) (hs : s.length ≤ 65536) :
    Calls Tryd.prog 48 #[.string (bs s)] w fun e w' => (∃ v, e = .returned (.tuple #[v, .bool (decide (lastP (pcs 10 s) = []))]) ∧ GotStrs w.heap.size (pcs 10 s).dropLast w' v) ∧ Below w.heap.size w w' := by
  have hz := bs_size s
  have hget := fun k h => congrArg UInt8.toNat (bs_get s k h)
  have hex := bs_ext s
  have HG := Lib.hid hget
  have HX := Lib.hid hex
  clear hget hex
  obtain ⟨inf, hi, iz0, iz1, iz2⟩ := info_parts qinfoS
  obtain ⟨S, hS⟩ : ∃ S, bs s = S := ⟨_, rfl⟩
  rw [hS] at hz HG HX ⊢
  clear hS
  go_enter Tryd.func48, Tryd.ntmps48
  go_wp2
  go_loopw [4, 5, 9] (fun v ln i wr => ∃ k : Nat, k ≤ s.length ∧ i = .int .i64 k ∧ ln = .string (bs (lastP (pcs 10 (s.take k)))) ∧ Hid (GotStrs w.heap.size (pcs 10 (s.take k)).dropLast wr v) ∧ Below w.heap.size w wr) (fun _ _ i _ => s.length - (intOf i).toNat)
  case atStart => exact ⟨0, by omega, rfl, rfl, Lib.hid (World.ownsRow_nil _ _ _ _), by repeat (first | exact Below.refl _ _ | refine below_dN ?_ _ | refine Below.drew ?_ | refine Below.alloc ?_ (by first | omega | (simp; done) | (simp; omega)) _ | refine Below.setCell ?_ (by first | omega | (simp; done) | (simp; omega)) _ | refine below_step (by assumption) (by first | omega | (simp; done) | (simp; omega)) ?_)⟩
  case round =>
    obtain ⟨k, hk, rfl, rfl, HO, hbel⟩ := hrel
    have hbz := hbel.size
    have HB := Lib.hid hbel
    clear hbel
    have hpl := (pcs_small 10 _ (s.take k) (Nat.le_refl _)).1
    have htl : (s.take k).length = k := by rw [List.length_take]; omega
    rw [htl] at hpl
    have hz2 := lastP_small (c := 10) (s.take k)
    rw [htl] at hz2
    have hne := pcs_ne 10 (s.take k)
    have HNE := Lib.hid hne
    clear hne
    by_cases hlt : k < s.length
    · have hlt' : k < S.size := by omega
      have hg := HG.out k hlt'
      have HGK := Lib.hid hg
      clear hg htl
      by_cases e1 : (S[k].toNat : Int) = 10
      · have hb : bt s k = 10 := UInt8.toNat_inj.1 (by rw [← HGK.out]; show S[k].toNat = 10; omega)
        have hn : pcs 10 (s.take (k + 1)) = pcs 10 (s.take k) ++ [[]] := by rw [bt_take hlt, hb, pcs_sep]
        generalize pcs 10 (s.take k) = Pl at *
        have HN := Lib.hid hn
        clear hn hb
        have hdl : Pl.dropLast.length ≤ 65536 := by rw [List.length_dropLast]; omega
        go_wp2_with (at_builtin; refine wpList_push rfl _ _ 58 rfl w.heap.size 9 inf (.string ByteArray.empty) 1 16 qundS hi iz0 iz1 iz2 rfl (by decide) (by decide) _ Pl.dropLast.length (strV Pl.dropLast) rfl (HO.out.alloc _) wr.heap.size 9 [.string (bs (lastP Pl))] rfl rfl (heap_alloc_new _ _) (one_one rfl) (by omega) (by first | omega | (simp; omega)) (B := w.heap.size) (W := w) (HB.out.alloc (by omega) _) (by omega) ?_; intro v' w8 hown' hgrow hat hbw8)
        go_roundw
        case rel =>
          refine ⟨k + 1, by omega, by go_num, by rw [HN.out, lastP_snoc]; rfl, Lib.hid ?_, hbw8⟩
          unfold GotStrs
          rw [HN.out, List.dropLast_concat]
          have e := dl_last HNE.out
          have hh := hown'
          have e2 : strV Pl.dropLast ++ [.string (bs (lastP Pl))] = strV Pl := by
            conv => rhs; rw [← e, strV_app]
            rfl
          have e3 : Pl.dropLast.length + 1 = Pl.length := by
            conv => rhs; rw [← e]
            simp
          rw [e2, e3] at hh
          exact hh
        case measure => simp [intOf]; omega
      · have hb : bt s k ≠ 10 := fun h => e1 (by have := HGK.out; rw [h] at this; rw [this]; rfl)
        have hn : pcs 10 (s.take (k + 1)) = (pcs 10 (s.take k)).dropLast ++ [lastP (pcs 10 (s.take k)) ++ [bt s k]] := by rw [bt_take hlt, pcs_snoc hb]
        have hx1 := HX.out k (k + 1)
        rw [show k + 1 - k = 1 by omega, take1 hlt] at hx1
        generalize pcs 10 (s.take k) = Pl at *
        have hsz := bs_size (lastP Pl)
        have hs1 := bs_size [bt s k]
        rw [List.length_singleton] at hs1
        have hcat := bs_app (lastP Pl) [bt s k]
        have HN := Lib.hid hn
        have HCAT := Lib.hid hcat
        clear hn hcat hb
        have hw2 : IntKind.i64.wrap ((k : Int) + 1) = k + 1 := IntWalk.i64_in _ (by omega)
        have hw3 : ((k : Int) + 1).toNat = k + 1 := by omega
        go_wp2
        go_roundw
        case rel => exact ⟨k + 1, by omega, by go_num, by rw [HN.out, lastP_snoc, ← HCAT.out], Lib.hid (by rw [HN.out, List.dropLast_concat]; exact HO.out), HB.out⟩
        case measure => simp [intOf]; omega
    · obtain rfl : k = s.length := by omega
      rw [List.take_length] at HO hz2
      rw [List.take_length]
      obtain ⟨Pl, hPl⟩ : ∃ Pl, pcs 10 s = Pl := ⟨_, rfl⟩
      have HPL := Lib.hid hPl
      rw [hPl] at HO hz2 ⊢
      clear hPl hpl HNE
      have hem : (bs (lastP Pl)).toList.isEmpty = decide (lastP Pl = []) := by rw [Lib.toList_data, bs_data]; cases lastP Pl <;> rfl
      obtain ⟨AO, cO, rfl⟩ := own_shape HO.out
      go_wp2
      refine bodyPost_ret (v := .tuple #[.slice AO Pl.dropLast.length cO, .bool (decide (lastP Pl = []))]) (by simp [results, Tryd.results48, go_sem, ↓IntWalk.iteOmega, *]) rfl ⟨⟨.slice AO Pl.dropLast.length cO, by rw [HPL.out], by rw [HPL.out]; exact HO.out⟩, HB.out⟩
end Go.Proofs.YtbcbmpnikgeoeaaDoor

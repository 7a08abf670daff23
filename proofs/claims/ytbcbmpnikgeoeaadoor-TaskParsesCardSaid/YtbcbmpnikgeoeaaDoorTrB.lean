/- The reference's ReadFact, ReadFacts. -/
import Derived.Test.YtbcbmpnikgeoeaaDoorTrA
import Derived.Test.YtbcbmpnikgeoeaaDoorMpH
namespace Go.Proofs.YtbcbmpnikgeoeaaDoor
set_option linter.unusedSimpArgs false
set_option linter.unusedVariables false
open Go Go.RowKit
set_option linter.unusedVariables false

/-- What ReadFact answers. -/
def RFacRet (s : List UInt8) (w : World) (e : Ending) (w' : World) : Prop := (∃ x y, e = .returned (.tuple #[.agg #[.int .i64 x, .int .i64 y], .bool (facW s).isSome]) ∧ FacIs s (x, y)) ∧ Below w.heap.size w w'
theorem facW_at {a b : List UInt8} (h : (61 : UInt8) ∉ a) : (facW (a ++ 61 :: b)).isSome = ((numW a).isSome && (numW b).isSome) := by
  unfold facW
  rw [ct_at a b h]
  dsimp only
  rw [if_pos rfl]
  cases numW a <;> cases numW b <;> rfl
theorem facIs_at {a b : List UInt8} (h : (61 : UInt8) ∉ a) {x y : Int} (hx : NumIs a x) (hy : NumIs b y) : FacIs (a ++ 61 :: b) (x, y) := by
  refine facIs_of ?_ ?_
  · rw [ct_at a b h]; exact hx
  · rw [ct_at a b h]; exact hy
theorem facW_no {s : List UInt8} (h : (61 : UInt8) ∉ s) : facW s = none := by
  unfold facW
  rw [ct_no s h]
  rfl
theorem nin_snoc {c x : UInt8} {l : List UInt8} (h : c ∉ l) (hx : x ≠ c) : c ∉ l ++ [x] := by
  intro hm
  rw [List.mem_append] at hm
  rcases hm with hm | hm
  · exact h hm
  · simp at hm; exact hx hm.symm

set_option maxHeartbeats 2000000 in
theorem rfact_any (s : List UInt8) (w : World) (hs : s.length ≤ 65536) :
    Calls Tryd.prog 71 #[.string (bs s)] w (RFacRet s w) := by
  have hz := bs_size s
  have hget := fun k h => congrArg UInt8.toNat (bs_get s k h)
  have hex := bs_ext s
  have HG := Lib.hid hget
  have HX := Lib.hid hex
  clear hget hex
  obtain ⟨S, hS⟩ : ∃ S, bs s = S := ⟨_, rfl⟩
  rw [hS] at hz HG HX ⊢
  clear hS
  go_enter Tryd.func71, Tryd.ntmps71
  go_wp2
  go_loopw [11] (fun i wr => ∃ k : Nat, k ≤ s.length ∧ i = .int .i64 k ∧ Hid ((61 : UInt8) ∉ s.take k) ∧ wr = w.alloc (Obj.cells #[.int .i64 0, .int .i64 0] 51)) (fun i _ => s.length - (intOf i).toNat)
  case atStart => exact ⟨0, by omega, rfl, Lib.hid (by simp), rfl⟩
  case round =>
    obtain ⟨k, hk, rfl, HN, rfl⟩ := hrel
    by_cases hlt : k < s.length
    · have hlt' : k < S.size := by omega
      have hg := HG.out k hlt'
      have HGK := Lib.hid hg
      clear hg
      by_cases e1 : (S[k].toNat : Int) = 61
      · have hb : bt s k = 61 := UInt8.toNat_inj.1 (by rw [← HGK.out]; show S[k].toNat = 61; omega)
        have hsp := bt_split hlt
        rw [hb] at hsp
        have x1 := HX.out 0 k
        rw [List.drop_zero, Nat.sub_zero] at x1
        have x2 := HX.out (k + 1) S.size
        rw [hz, List.take_of_length_le (by simp)] at x2
        have hA : (s.take k).length ≤ 65536 := by rw [List.length_take]; omega
        have hB : (s.drop (k + 1)).length ≤ 65536 := by rw [List.length_drop]; omega
        have k1 := fun W => digits_any (s.take k) W hA
        have k2 := fun W => digits_any (s.drop (k + 1)) W hB
        have HSP := Lib.hid hsp
        have K1 := Lib.hid k1
        have K2 := Lib.hid k2
        clear k1 k2 hsp hb hA hB
        go_wp2_with fail
        refine (K1.out _).mono ?_
        rintro e w1 ⟨⟨n, rfl, hn⟩, hb1⟩
        obtain ⟨hc1, hf1, hz1, hlt1, hle1⟩ := cellsIf hb1 (by (try simp); exact rfl)
        go_wp2_with fail
        refine (K2.out _).mono ?_
        rintro e w2 ⟨⟨m, rfl, hm⟩, hb2⟩
        obtain ⟨hc2, hf2, hz2, hlt2, hle2⟩ := cellsIf hb2 (by (try simp); exact rfl)
        have hfs := facW_at (b := s.drop (k + 1)) HN.out
        have hfi := facIs_at HN.out hn hm
        rw [← HSP.out] at hfs hfi
        have HFS := Lib.hid hfs
        have HFI := Lib.hid hfi
        clear hfs hfi hn hm K1 K2
        generalize (numW (s.take k)).isSome = b1 at *
        generalize (numW (s.drop (k + 1))).isSome = b2 at *
        cases b1
        all_goals
          go_wp2
          refine bodyPost_ret (v := .tuple #[.agg #[.int .i64 n, .int .i64 m], .bool _]) (by simp [results, Tryd.results71, go_sem, ↓IntWalk.iteOmega, *]; rfl) rfl ⟨⟨n, m, by rw [HFS.out]; rfl, HFI.out⟩, by repeat (first | exact Below.refl _ _ | refine below_dN ?_ _ | refine Below.drew ?_ | refine Below.alloc ?_ (by first | omega | (simp; done) | (simp; omega)) _ | refine Below.setCell ?_ (by first | omega | (simp; done) | (simp; omega)) _ | refine below_step (by assumption) (by first | omega | (simp; done) | (simp; omega)) ?_)⟩
      · have hb : bt s k ≠ 61 := fun h => e1 (by have := HGK.out; rw [h] at this; rw [this]; rfl)
        have HN2 := Lib.hid (show (61 : UInt8) ∉ s.take (k + 1) by rw [bt_take hlt]; exact nin_snoc HN.out hb)
        clear hb
        go_wp2
        go_roundw
        case rel => exact ⟨k + 1, by omega, by go_num, HN2, trivial⟩
        case measure => simp [intOf]; omega
    · obtain rfl : k = s.length := by omega
      rw [List.take_length] at HN
      have hf := facW_no HN.out
      have HF := Lib.hid hf
      clear hf
      go_wp2
      refine bodyPost_ret (v := .tuple #[.agg #[.int .i64 0, .int .i64 0], .bool false]) (by simp [results, Tryd.results71, go_sem, ↓IntWalk.iteOmega, *]) rfl ⟨⟨0, 0, by rw [HF.out]; rfl, fun m hm => by rw [HF.out] at hm; cases hm⟩, by repeat (first | exact Below.refl _ _ | refine below_dN ?_ _ | refine Below.drew ?_ | refine Below.alloc ?_ (by first | omega | (simp; done) | (simp; omega)) _ | refine Below.setCell ?_ (by first | omega | (simp; done) | (simp; omega)) _ | refine below_step (by assumption) (by first | omega | (simp; done) | (simp; omega)) ?_)⟩
theorem Moves.of_below {w w' : World} (h : Below w.heap.size w w') : Moves w w' (fun _ => False) (fun _ => False) := Moves.up h
theorem facsW_bad : ∀ {l : List (List UInt8)} {s : List UInt8}, s ∈ l → facW s = none → facsW l = none
  | a :: l, s, h, hn => by
    rw [facsW]
    rcases List.mem_cons.1 h with rfl | h
    · rw [hn]
    · rw [facsW_bad h hn]; cases facW a <;> rfl
theorem numsW_bad : ∀ {l : List (List UInt8)} {s : List UInt8}, s ∈ l → numW s = none → numsW l = none
  | a :: l, s, h, hn => by
    rw [numsW]
    rcases List.mem_cons.1 h with rfl | h
    · rw [hn]
    · rw [numsW_bad h hn]; cases numW a <;> rfl
theorem facsW_next {l : List (List UInt8)} {k : Nat} {xs : List (Int × Int)} {x y : Int} (hk : k < l.length) (h : facsW (l.take k) = some xs) (hf : FacIs (txt l k) (x, y)) (hs : (facW (txt l k)).isSome = true) : facsW (l.take (k + 1)) = some (xs ++ [(x, y)]) := by
  rw [txt_take hk, facsW_snoc, h]
  cases e : facW (txt l k) with
  | none => rw [e] at hs; cases hs
  | some z => rw [hf z e]
theorem numsW_next {l : List (List UInt8)} {k : Nat} {xs : List Int} {x : Int} (hk : k < l.length) (h : numsW (l.take k) = some xs) (hf : NumIs (txt l k) x) (hs : (numW (txt l k)).isSome = true) : numsW (l.take (k + 1)) = some (xs ++ [x]) := by
  rw [txt_take hk, numsW_snoc, h]
  cases e : numW (txt l k) with
  | none => rw [e] at hs; cases hs
  | some z => rw [hf z e]
/-- What ReadFacts answers. -/
def RFacsRet (l : List (List UInt8)) (w : World) (e : Ending) (w' : World) : Prop :=
  (∃ A' c' xs, e = .returned (.tuple #[.slice A' xs.length c', .bool (facsW l).isSome]) ∧ (A' = none → c' = 0) ∧ (∀ f, facsW l = some f → xs = f) ∧ Fac w' (fun g => g < w.heap.size) A' xs) ∧ Below w.heap.size w w'
theorem rfacs_no {l : List (List UInt8)} {w w' : World} (h : facsW l = none) (hb : Below w.heap.size w w') : RFacsRet l w (.returned (.tuple #[.slice none 0 0, .bool false])) w' :=
  ⟨⟨none, 0, [], by rw [h]; rfl, fun _ => rfl, (fun f hf => by rw [h] at hf; cases hf), by simp, fun hn => absurd hn (by simp)⟩, hb⟩

set_option maxHeartbeats 4000000 in
theorem rfacts_any (l : List (List UInt8)) (A : Option Addr) (cA : Nat) (w : World) (hl : StrsAt w (fun _ => False) A l) :
    Calls Tryd.prog 70 #[.slice A l.length cA] w (RFacsRet l w) := by
  have l1 := hl.1
  have HL := Lib.hid hl
  clear hl
  obtain ⟨inf, hi, iz0, iz1, iz2⟩ := info_parts qinfoFa
  go_enter Tryd.func70, Tryd.ntmps70
  go_wp2
  go_loopw [4, 11] (fun v i wr => ∃ (k : Nat) (xs : List (Int × Int)), k ≤ l.length ∧ i = .int .i64 k ∧ wr.ownsRow w.heap.size 51 2 v k (fcl xs) ∧ Hid (xs.length = k) ∧ Hid (facsW (l.take k) = some xs) ∧ Below w.heap.size w wr) (fun _ i _ => l.length - (intOf i).toNat)
  case atStart => exact ⟨0, [], by omega, rfl, World.ownsRow_nil _ _ _ _, Lib.hid rfl, Lib.hid rfl, Below.refl _ _⟩
  case round =>
    obtain ⟨k, xs, hk, rfl, hown, HLN, HIS, hbel⟩ := hrel
    have hbz := hbel.size
    have HO := Lib.hid hown
    have HB := Lib.hid hbel
    clear hown hbel
    by_cases hlt : k < l.length
    · obtain ⟨bA, oA, rfl, hbA, hxA, d1⟩ := (HL.out.move (Moves.of_below HB.out)).at_ hlt
      have hm := txt_mem hlt
      have HM := Lib.hid hm
      clear hm
      have kf := rfact_any (txt l k) wr (HL.out.small hlt)
      have KF := Lib.hid kf
      clear kf
      go_wp2_with fail
      refine KF.out.mono ?_
      rintro e w1 ⟨⟨x, y, rfl, hx⟩, hb1⟩
      have hz1 := hb1.size
      have ho1 := own_below HO.out hb1
      have hb01 := HB.out.trans (hb1.mono hbz)
      cases hs : (facW (txt l k)).isSome with
      | false =>
        have hn : facsW l = none := facsW_bad HM.out (by cases e : facW (txt l k) with | none => rfl | some z => rw [e] at hs; cases hs)
        have HN := Lib.hid hn
        have HB1 := Lib.hid hb01
        clear hn hs hx ho1 hb1 hb01
        go_wp2
        refine bodyPost_ret (v := .tuple #[.slice none 0 0, .bool false]) (by simp [results, Tryd.results70, go_sem, ↓IntWalk.iteOmega, *]) rfl (rfacs_no HN.out (HB1.out.alloc (by omega) _))
      | true =>
        have hnx := facsW_next hlt HIS.out hx hs
        have HNX := Lib.hid hnx
        have HB1 := Lib.hid hb01
        have HO1 := Lib.hid ho1
        clear hnx hs hx ho1 hb1 hb01
        go_wp2_with (at_builtin; refine wpList_push rfl _ _ 24 rfl w.heap.size 51 inf (.agg #[.int .i64 0, .int .i64 0]) 2 16 qundFa hi iz0 iz1 iz2 rfl (by decide) (by decide) _ k (fcl xs) rfl ((HO1.out.alloc _).alloc _) (w1.heap.size + 1) 51 [.int .i64 x, .int .i64 y] rfl rfl (by have h9 := heap_alloc_new (w1.alloc (Obj.cells #[.int .i64 x, .int .i64 y] 51)) (Obj.cells #[.int .i64 x, .int .i64 y] 51); simp only [World.size_alloc] at h9; exact h9) (two_one rfl rfl) (by omega) (by first | omega | (simp; omega)) (B := w.heap.size) (W := w) ((HB1.out.alloc (by omega) _).alloc (by simp; omega) _) (by omega) ?_; intro v' w8 hown' hgrow hat hbw8)
        go_roundw
        case rel => exact ⟨k + 1, _, by omega, by go_num, by rw [fcl_app]; exact hown', Lib.hid (by rw [List.length_append, HLN.out]; rfl), HNX, hbw8⟩
        case measure => simp [intOf]; omega
    · obtain rfl : k = l.length := by omega
      have his := HIS.out
      rw [List.take_length] at his
      obtain ⟨A', c', e1, e2, e3⟩ := own_fac (bad := fun b => b < w.heap.size) HO.out HLN.out.symm (by rw [HLN.out]; omega) (fun g h1 h2 h3 => by omega)
      subst e1
      have HISS := Lib.hid his
      have HE := Lib.hid (⟨e2, e3⟩ : (A' = none → c' = 0) ∧ _)
      clear his e2 e3
      go_wp2
      refine bodyPost_ret (v := .tuple #[.slice A' xs.length c', .bool true]) (by simp [results, Tryd.results70, go_sem, ↓IntWalk.iteOmega, *]) rfl ⟨⟨A', c', xs, by rw [HISS.out]; rfl, HE.out.1, (fun f hf => by rw [HISS.out] at hf; cases hf; rfl), HE.out.2⟩, HB.out⟩
end Go.Proofs.YtbcbmpnikgeoeaaDoor

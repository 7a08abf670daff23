/- The reference's head, effect. -/
import Derived.Test.YtbcbmpnikgeoeaaDoorTrD
import Derived.Test.YtbcbmpnikgeoeaaDoorMpC
namespace Go.Proofs.YtbcbmpnikgeoeaaDoor
set_option linter.unusedSimpArgs false
set_option linter.unusedVariables false
open Go Go.RowKit
set_option linter.unusedVariables false

theorem opW_len {line : List UInt8} (h : line.length < 5) : opW line = none := by
  cases e : opW line with
  | none => rfl
  | some c =>
    exfalso
    have h1 := opW_back e [] []
    rw [h1] at h
    unfold opT at h
    have h2 : 1 ≤ (Lib.itoa c.1).length := by
      unfold opW at e
      split at e
      · obtain ⟨n, hn, rfl⟩ := Option.map_eq_some_iff.1 e
        have h3 := (numW_back hn).2
        rw [itoa_dec h3]
        exact List.length_pos_iff.2 (dec_ne _)
      · cases e
    simp only [List.length_append, List.length_cons, List.length_nil] at h
    omega
theorem opW_pre {line : List UInt8} (h : line.take 3 ≠ [111, 112, 32]) : opW line = none := by
  unfold opW
  rw [if_neg]
  rintro ⟨h1, -⟩
  obtain ⟨t, rfl⟩ := List.isPrefixOf_iff_prefix.1 h1
  exact h rfl
theorem opW_no {line : List UInt8} (h : (32 : UInt8) ∉ line.drop 3) : opW line = none := by
  unfold opW
  rw [if_neg]
  rintro ⟨-, h1⟩
  rw [ct_no _ h] at h1
  cases h1
theorem opW_at {line a b : List UInt8} (h : line.take 3 = [111, 112, 32]) (hd : line.drop 3 = a ++ 32 :: b) (hn : (32 : UInt8) ∉ a) : opW line = (numW a).map fun n => (n, b) := by
  unfold opW
  rw [hd, ct_at a b hn, if_pos]
  refine ⟨List.isPrefixOf_iff_prefix.2 ⟨line.drop 3, ?_⟩, rfl⟩
  rw [← h, List.take_append_drop]
/-- What head answers. -/
def RHeadRet (line : List UInt8) (w : World) (e : Ending) (w' : World) : Prop :=
  (∃ nm n, e = .returned (.tuple #[.agg #[.string (bs nm), .int .i64 n, .slice none 0 0, .slice none 0 0], .bool (opW line).isSome]) ∧ (∀ c, opW line = some c → c = (n, nm)) ∧ nm.length ≤ 65536) ∧ Below w.heap.size w w'
theorem rhead_no {line : List UInt8} {w w' : World} (h : opW line = none) (hb : Below w.heap.size w w') : RHeadRet line w (.returned (.tuple #[.agg #[.string ⟨#[]⟩, .int .i64 0, .slice none 0 0, .slice none 0 0], .bool false])) w' :=
  ⟨⟨[], 0, by rw [h]; rfl, (fun c hc => by rw [h] at hc; cases hc), by simp⟩, hb⟩

set_option maxRecDepth 20000 in
set_option maxHeartbeats 4000000 in
theorem rhead_any (s : List UInt8) (w : World) (hs : s.length ≤ 65536) :
    Calls Tryd.prog 52 #[.string (bs s)] w (RHeadRet s w) := by
  have hz := bs_size s
  have hex := bs_ext s
  have hz3 := bs_size (s.drop 3)
  rw [List.length_drop] at hz3
  have hget := fun k h => congrArg UInt8.toNat (bs_get (s.drop 3) k h)
  have hex3 := bs_ext (s.drop 3)
  have x0 := hex 0 3
  rw [List.drop_zero, Nat.sub_zero] at x0
  have x1 := hex 3 (bs s).size
  rw [hz, List.take_of_length_le (by simp)] at x1
  have hbq := beq_bs (s.take 3) [111, 112, 32]
  have hbo : (⟨#[111, 112, 32]⟩ : ByteArray) = bs [111, 112, 32] := rfl
  by_cases h5 : s.length < 5
  · have HN := Lib.hid (opW_len h5)
    clear x0 x1 hbq hbo hget hex hex3 hz3
    go_enter Tryd.func52, Tryd.ntmps52
    go_wp2
    refine bodyPost_ret (v := .tuple #[.agg #[.string ⟨#[]⟩, .int .i64 0, .slice none 0 0, .slice none 0 0], .bool false]) (by simp [results, Tryd.results52, go_sem, ↓IntWalk.iteOmega, *]) rfl (rhead_no HN.out (by repeat (first | exact Below.refl _ _ | refine below_dN ?_ _ | refine Below.drew ?_ | refine Below.alloc ?_ (by first | omega | (simp; done) | (simp; omega)) _ | refine Below.setCell ?_ (by first | omega | (simp; done) | (simp; omega)) _ | refine below_step (by assumption) (by first | omega | (simp; done) | (simp; omega)) ?_)))
  by_cases hp : s.take 3 = [111, 112, 32]
  case neg =>
    rw [decide_eq_false hp] at hbq
    have HN := Lib.hid (opW_pre hp)
    clear x1 hget hex hex3 hp hz3
    go_enter Tryd.func52, Tryd.ntmps52
    go_wp2
    refine bodyPost_ret (v := .tuple #[.agg #[.string ⟨#[]⟩, .int .i64 0, .slice none 0 0, .slice none 0 0], .bool false]) (by simp [results, Tryd.results52, go_sem, ↓IntWalk.iteOmega, *]) rfl (rhead_no HN.out (by repeat (first | exact Below.refl _ _ | refine below_dN ?_ _ | refine Below.drew ?_ | refine Below.alloc ?_ (by first | omega | (simp; done) | (simp; omega)) _ | refine Below.setCell ?_ (by first | omega | (simp; done) | (simp; omega)) _ | refine below_step (by assumption) (by first | omega | (simp; done) | (simp; omega)) ?_)))
  case pos =>
    rw [decide_eq_true hp] at hbq
    have HP := Lib.hid hp
    have HG := Lib.hid hget
    have HX := Lib.hid hex3
    have hrl : (s.drop 3).length = s.length - 3 := List.length_drop
    generalize hR : s.drop 3 = R at *
    have HRR := Lib.hid hR
    obtain ⟨S, hS⟩ : ∃ S, bs R = S := ⟨_, rfl⟩
    obtain ⟨n3, hn3⟩ : ∃ n3, R.length = n3 := ⟨_, rfl⟩
    rw [hS] at hz3 HG HX x1
    have HN3 := Lib.hid hn3
    have hn5 : n3 ≤ 65536 := by omega
    rw [← hrl, hn3] at hz3
    clear hget hex hex3 hp hR hS hrl hn3
    go_enter Tryd.func52, Tryd.ntmps52
    go_wp2
    have hn33 := HN3.out
    go_loopw [21] (fun i wr => ∃ k : Nat, k ≤ n3 ∧ i = .int .i64 k ∧ Hid ((32 : UInt8) ∉ R.take k) ∧ wr = w.alloc (Obj.cells #[.string ⟨#[]⟩, .int .i64 0, .slice none 0 0, .slice none 0 0] 47)) (fun i _ => n3 - (intOf i).toNat)
    case atStart => exact ⟨0, by omega, rfl, Lib.hid (by simp), rfl⟩
    case round =>
      obtain ⟨k, hk, rfl, HNN, rfl⟩ := hrel
      by_cases hlt : k < n3
      · have hlt' : k < S.size := by omega
        have hltR : k < R.length := by omega
        have hg := HG.out k hlt'
        have HGK := Lib.hid hg
        clear hg
        by_cases e1 : (S[k].toNat : Int) = 32
        · have hb : bt R k = 32 := UInt8.toNat_inj.1 (by rw [← HGK.out]; show S[k].toNat = 32; omega)
          have hsp := bt_split hltR
          rw [hb] at hsp
          have x2 := HX.out 0 k
          rw [List.drop_zero, Nat.sub_zero] at x2
          have x3 := HX.out (k + 1) S.size
          rw [hz3, List.take_of_length_le (by simp; omega)] at x3
          have hA : (R.take k).length ≤ 65536 := by rw [List.length_take]; omega
          have hB : (R.drop (k + 1)).length ≤ 65536 := by rw [List.length_drop]; omega
          have k1 := fun W => digits_any (R.take k) W hA
          have how := opW_at HP.out (HRR.out.trans hsp) HNN.out
          have HOW := Lib.hid how
          have K1 := Lib.hid k1
          have HBL := Lib.hid hB
          have hw3 : ((k : Int) + 1).toNat = k + 1 := by omega
          clear k1 hsp hb hA hB how hn33 hltR
          go_wp2_with fail
          refine (K1.out _).mono ?_
          rintro e w1 ⟨⟨n, rfl, hn⟩, hb1⟩
          obtain ⟨hc1, hf1, hz1, hlt1, hle1⟩ := cellsIf hb1 (by (try simp); exact rfl)
          have HN := Lib.hid hn
          clear hn K1
          have hos : (numW (R.take k)).isSome = (opW s).isSome := by rw [HOW.out]; cases numW (R.take k) <;> rfl
          rw [hos]
          have HIS := Lib.hid (show ∀ c, opW s = some c → c = (n, R.drop (k + 1)) by
            intro c hc
            rw [HOW.out] at hc
            obtain ⟨m, hm, rfl⟩ := Option.map_eq_some_iff.1 hc
            rw [HN.out m hm])
          clear hos
          obtain ⟨ok, hok⟩ : ∃ ok, (opW s).isSome = ok := ⟨_, rfl⟩
          rw [hok]
          have HOKK := Lib.hid hok
          clear hok
          go_wp2
          refine bodyPost_ret (v := .tuple #[.agg #[.string (bs (R.drop (k + 1))), .int .i64 n, .slice none 0 0, .slice none 0 0], .bool ok]) (by simp [results, Tryd.results52, go_sem, ↓IntWalk.iteOmega, *]) rfl ⟨⟨_, _, by rw [HOKK.out], HIS.out, HBL.out⟩, by repeat (first | exact Below.refl _ _ | refine below_dN ?_ _ | refine Below.drew ?_ | refine Below.alloc ?_ (by first | omega | (simp; done) | (simp; omega)) _ | refine Below.setCell ?_ (by first | omega | (simp; done) | (simp; omega)) _ | refine below_step (by assumption) (by first | omega | (simp; done) | (simp; omega)) ?_)⟩
        · have hb : bt R k ≠ 32 := fun h => e1 (by have := HGK.out; rw [h] at this; rw [this]; rfl)
          have HN2 := Lib.hid (show (32 : UInt8) ∉ R.take (k + 1) by rw [bt_take hltR]; exact nin_snoc HNN.out hb)
          clear hb hn33 hltR
          go_wp2
          go_roundw
          case rel => exact ⟨k + 1, by omega, by go_num, HN2, trivial⟩
          case measure => simp [intOf]; omega
      · obtain rfl : k = n3 := by omega
        have hno : opW s = none := opW_no (by rw [HRR.out]; have := HNN.out; rwa [← hn33, List.take_length] at this)
        have HNO := Lib.hid hno
        clear hno hn33
        go_wp2
        refine bodyPost_ret (v := .tuple #[.agg #[.string ⟨#[]⟩, .int .i64 0, .slice none 0 0, .slice none 0 0], .bool false]) (by simp [results, Tryd.results52, go_sem, ↓IntWalk.iteOmega, *]) rfl (rhead_no HNO.out (by repeat (first | exact Below.refl _ _ | refine below_dN ?_ _ | refine Below.drew ?_ | refine Below.alloc ?_ (by first | omega | (simp; done) | (simp; omega)) _ | refine Below.setCell ?_ (by first | omega | (simp; done) | (simp; omega)) _ | refine below_step (by assumption) (by first | omega | (simp; done) | (simp; omega)) ?_)))
/-- What effect answers. -/
def REffRet (line : List UInt8) (w : World) (e : Ending) (w' : World) : Prop :=
  (∃ S c whn vx vy, e = .returned (.tuple #[.agg #[.slice S whn.length c, .int .i64 vx, .int .i64 vy], .bool (effW line).isSome]) ∧ (∀ e, effW line = some e → e = ⟨whn, vx, vy⟩) ∧ Fac w' (fun g => g < w.heap.size) S whn) ∧ Below w.heap.size w w'
theorem reff_no {line : List UInt8} {w w' : World} (h : effW line = none) (hb : Below w.heap.size w w') : REffRet line w (.returned (.tuple #[.agg #[.slice none 0 0, .int .i64 0, .int .i64 0], .bool false])) w' :=
  ⟨⟨none, 0, [], 0, 0, by rw [h]; rfl, (fun c hc => by rw [h] at hc; cases hc), fac_nil⟩, hb⟩
theorem effW_pcs {line x : List UInt8} {ws : List (List UInt8)} (h : pcs 32 line = x :: ws) : effW line = if x = wEff then effV ws else none := by
  by_cases e : x = wEff
  · rw [if_pos e]
    have h1 : isW wEff line = true := by unfold isW; rw [h]; simp [e]
    rw [effW_V h1, h]; rfl
  · rw [if_neg e]
    unfold effW
    rw [lineW_pcs h, if_neg e]

set_option maxRecDepth 20000 in
set_option maxHeartbeats 8000000 in
theorem reff_any (line : List UInt8) (w : World) (hs : line.length ≤ 65536) :
    Calls Tryd.prog 51 #[.string (bs line)] w (REffRet line w) := by
  have k1 := rwords_any line w hs
  have k1 := fun w1 (hb : Below w.heap.size w w1) => rwords_any line w1 hs
  obtain ⟨s1, s2⟩ := pcs_small 32 _ line (Nat.le_refl _)
  obtain ⟨x, ws, hws⟩ : ∃ x ws, pcs 32 line = x :: ws := by
    cases h : pcs 32 line with
    | nil => exact absurd h (pcs_ne 32 line)
    | cons x ws => exact ⟨x, ws, rfl⟩
  have hew := effW_pcs hws
  rw [hws] at k1 s1 s2
  have hbq := beq_bs x wEff
  have hbe : (⟨#[101, 102, 102]⟩ : ByteArray) = bs wEff := rfl
  have HEW := Lib.hid hew
  have K1 := Lib.hid k1
  have S2 := Lib.hid s2
  clear hws k1 s2 hew
  rw [List.length_cons] at s1
  go_enter Tryd.func51, Tryd.ntmps51
  go_wp2_with fail
  refine (K1.out _ (by repeat (first | exact Below.refl _ _ | refine below_dN ?_ _ | refine Below.drew ?_ | refine Below.alloc ?_ (by first | omega | (simp; done) | (simp; omega)) _ | refine Below.setCell ?_ (by first | omega | (simp; done) | (simp; omega)) _ | refine below_step (by assumption) (by first | omega | (simp; done) | (simp; omega)) ?_))).mono ?_
  rintro e w1 ⟨⟨v, rfl, hgot⟩, hb1⟩
  simp only [World.size_alloc] at hgot
  obtain ⟨A1, c1, rfl, hc1, hst⟩ := gotStrs hgot (by rw [List.length_cons]; omega) (fun p hp => Nat.le_trans (S2.out p hp) hs)
  obtain ⟨b1, off1, rfl, hbl, hbn, hcx⟩ := hst.at_ (k := 0) (by simp)
  rw [show txt (x :: ws) 0 = x from rfl, Nat.add_zero] at hcx
  have hb01 : Below w.heap.size w w1 := by repeat (first | exact Below.refl _ _ | refine below_dN ?_ _ | refine Below.drew ?_ | refine Below.alloc ?_ (by first | omega | (simp; done) | (simp; omega)) _ | refine Below.setCell ?_ (by first | omega | (simp; done) | (simp; omega)) _ | refine below_step (by assumption) (by first | omega | (simp; done) | (simp; omega)) ?_)
  have hr0 := (BxI.new w 53 #[.slice none 0 0, .int .i64 0, .int .i64 0]).up hb1
  have r0 := hr0.cell 0 _ rfl
  have r1 := hr0.cell 1 _ rfl
  have r2 := hr0.cell 2 _ rfl
  have rf := hr0.fz
  have rl := hr0.lt
  rw [List.length_cons] at hc1
  have HB1 := Lib.hid hb01
  have HST := Lib.hid hst
  have HR0 := Lib.hid hr0
  clear hgot hst hb1 hb01 hr0
  simp only [List.length_cons] at *
  by_cases hx : x = wEff
  case neg =>
    rw [decide_eq_false hx] at hbq
    have HNO := Lib.hid (show effW line = none by rw [HEW.out, if_neg hx])
    clear hx
    by_cases hl : ws.length = 0
    · go_wp2
      all_goals (refine bodyPost_ret (v := .tuple #[.agg #[.slice none 0 0, .int .i64 0, .int .i64 0], .bool false]) (by simp [results, Tryd.results51, go_sem, ↓IntWalk.iteOmega, *]) rfl (reff_no HNO.out (by have := HB1.out; repeat (first | exact Below.refl _ _ | refine below_dN ?_ _ | refine Below.drew ?_ | refine Below.alloc ?_ (by first | omega | (simp; done) | (simp; omega)) _ | refine Below.setCell ?_ (by first | omega | (simp; done) | (simp; omega)) _ | refine below_step (by assumption) (by first | omega | (simp; done) | (simp; omega)) ?_))))
    · go_wp2
      all_goals (refine bodyPost_ret (v := .tuple #[.agg #[.slice none 0 0, .int .i64 0, .int .i64 0], .bool false]) (by simp [results, Tryd.results51, go_sem, ↓IntWalk.iteOmega, *]) rfl (reff_no HNO.out (by have := HB1.out; repeat (first | exact Below.refl _ _ | refine below_dN ?_ _ | refine Below.drew ?_ | refine Below.alloc ?_ (by first | omega | (simp; done) | (simp; omega)) _ | refine Below.setCell ?_ (by first | omega | (simp; done) | (simp; omega)) _ | refine below_step (by assumption) (by first | omega | (simp; done) | (simp; omega)) ?_))))
  case pos =>
    rw [decide_eq_true hx] at hbq
    have hev : effW line = effV ws := by rw [HEW.out, if_pos hx]
    have HEV := Lib.hid hev
    clear hx hev
    match ws, HEV, hc1, HST, s1 with
    | [], HEV, hc1, HST, s1 =>
      have HNO := Lib.hid (show effW line = none from HEV.out)
      simp only [List.length_nil, List.length_cons] at *
      go_wp2
      all_goals (refine bodyPost_ret (v := .tuple #[.agg #[.slice none 0 0, .int .i64 0, .int .i64 0], .bool false]) (by simp [results, Tryd.results51, go_sem, ↓IntWalk.iteOmega, *]) rfl (reff_no HNO.out (by have := HB1.out; repeat (first | exact Below.refl _ _ | refine below_dN ?_ _ | refine Below.drew ?_ | refine Below.alloc ?_ (by first | omega | (simp; done) | (simp; omega)) _ | refine Below.setCell ?_ (by first | omega | (simp; done) | (simp; omega)) _ | refine below_step (by assumption) (by first | omega | (simp; done) | (simp; omega)) ?_))))
    | [f1], HEV, hc1, HST, s1 =>
      obtain ⟨b', o', e', _, _, hd6⟩ := HST.out.at_ (k := 1) (by simp)
      injection e' with e'
      injection e' with e1 e2 _
      subst e1 e2
      rw [show txt (x :: [f1]) 1 = f1 from rfl] at hd6
      have hsm := HST.out.small (k := 1) (by simp)
      rw [show txt (x :: [f1]) 1 = f1 from rfl] at hsm
      have k2 := rfact_any f1 w1 hsm
      have K2 := Lib.hid k2
      clear k2 hsm
      simp only [List.length_nil, List.length_cons] at *
      go_wp2_with fail
      refine K2.out.mono ?_
      rintro e w2 ⟨⟨vx, vy, rfl, hfi⟩, hb2⟩
      have hz1 := HB1.out.size
      have hz2 := hb2.size
      have hr2 := HR0.out.up hb2
      have r20 := hr2.cell 0 _ rfl
      have r21 := hr2.cell 1 _ rfl
      have r22 := hr2.cell 2 _ rfl
      have r2f := hr2.fz
      have hev2 := HEV.out.trans (effV_one f1 hfi)
      have hos : (facW f1).isSome = (effW line).isSome := by rw [hev2]; cases facW f1 <;> rfl
      rw [hos]
      obtain ⟨ok, hok⟩ : ∃ ok, (effW line).isSome = ok := ⟨_, rfl⟩
      rw [hok]
      have HOKK := Lib.hid hok
      have HIS := Lib.hid (show ∀ e, effW line = some e → e = ⟨[], vx, vy⟩ by
        intro e he
        rw [hev2] at he
        split at he
        · cases he
        · cases he; rfl)
      have HB2 := Lib.hid (HB1.out.trans (hb2.mono hz1))
      have rl2 := hr2.lt
      clear hok hos hev2 hfi hb2 hr2 r0 r1 r2 rf
      go_wp2
      refine bodyPost_ret (v := .tuple #[.agg #[.slice none 0 0, .int .i64 vx, .int .i64 vy], .bool ok]) (by simp [results, Tryd.results51, go_sem, ↓IntWalk.iteOmega, *]) rfl ⟨⟨none, 0, [], vx, vy, by rw [HOKK.out]; rfl, HIS.out, fac_nil⟩, by have := HB2.out; repeat (first | exact Below.refl _ _ | refine below_dN ?_ _ | refine Below.drew ?_ | refine Below.alloc ?_ (by first | omega | (simp; done) | (simp; omega)) _ | refine Below.setCell ?_ (by first | omega | (simp; done) | (simp; omega)) _ | refine below_step (by assumption) (by first | omega | (simp; done) | (simp; omega)) ?_)⟩
    | [f1, i1], HEV, hc1, HST, s1 =>
      have HNO := Lib.hid (show effW line = none from HEV.out.trans (effV_two f1 i1))
      simp only [List.length_nil, List.length_cons] at *
      go_wp2
      all_goals (refine bodyPost_ret (v := .tuple #[.agg #[.slice none 0 0, .int .i64 0, .int .i64 0], .bool false]) (by simp [results, Tryd.results51, go_sem, ↓IntWalk.iteOmega, *]) rfl (reff_no HNO.out (by have := HB1.out; repeat (first | exact Below.refl _ _ | refine below_dN ?_ _ | refine Below.drew ?_ | refine Below.alloc ?_ (by first | omega | (simp; done) | (simp; omega)) _ | refine Below.setCell ?_ (by first | omega | (simp; done) | (simp; omega)) _ | refine below_step (by assumption) (by first | omega | (simp; done) | (simp; omega)) ?_))))
    | f1 :: i1 :: j1 :: q1, HEV, hc1, HST, s1 =>
      obtain ⟨b', o', e', _, _, hd6⟩ := HST.out.at_ (k := 2) (by simp)
      injection e' with e'
      injection e' with e1 e2 _
      subst e1 e2
      rw [show txt (x :: f1 :: i1 :: j1 :: q1) 2 = i1 from rfl] at hd6
      have hbi := beq_bs i1 wIf
      have hbf : (⟨#[105, 102]⟩ : ByteArray) = bs wIf := rfl
      simp only [List.length_nil, List.length_cons] at *
      have hq0 : ((q1.length : Int) + 1 + 1 + 1 + 1 == 3) = false := by rw [beq_eq_false_iff_ne]; omega
      by_cases hi1 : i1 = wIf
      · rw [decide_eq_true hi1] at hbi
        have HI1 := Lib.hid hi1
        clear hi1
        obtain ⟨b', o', e', _, _, hd7⟩ := HST.out.at_ (k := 1) (by simp)
        injection e' with e'
        injection e' with e1 e2 _
        subst e1 e2
        rw [show txt (x :: f1 :: i1 :: j1 :: q1) 1 = f1 from rfl] at hd7
        have hsm := HST.out.small (k := 1) (by simp)
        rw [show txt (x :: f1 :: i1 :: j1 :: q1) 1 = f1 from rfl] at hsm
        have k2 := rfact_any f1 w1 hsm
        have K2 := Lib.hid k2
        have hd3 := HST.out.drop 3
        have HD3 := Lib.hid (show StrsAt w1 (fun g => g < w.heap.size + 1) (some ⟨b1, off1 + 3, none⟩) (j1 :: q1) from hd3)
        clear k2 hsm hd3
        go_wp2_with fail
        refine K2.out.mono ?_
        rintro e w2 ⟨⟨vx, vy, rfl, hfi⟩, hb2⟩
        have hz1 := HB1.out.size
        have hz2 := hb2.size
        have hr2 := HR0.out.up hb2
        have hst2 := (HD3.out.move (Moves.mono (bad' := fun _ => False) fun g _ h => absurd h id)).up hb2
        have HFI := Lib.hid hfi
        have HB2 := Lib.hid (HB1.out.trans (hb2.mono hz1))
        have HST2 := Lib.hid hst2
        have HR2 := Lib.hid hr2
        have rl2 := hr2.lt
        have hsm : ∀ wx, Below w2.heap.size w2 wx → Calls Tryd.prog 70 #[.slice (some ⟨b1, off1 + 3, none⟩) (j1 :: q1).length (c1 - 3)] wx (RFacsRet (j1 :: q1) wx) := fun wx hb => rfacts_any (j1 :: q1) (some ⟨b1, off1 + 3, none⟩) (c1 - 3) wx (HST2.out.up hb)
        have K3 := Lib.hid hsm
        obtain ⟨ok1, hok1⟩ : ∃ ok, (facW f1).isSome = ok := ⟨_, rfl⟩
        rw [hok1]
        have HOK1 := Lib.hid hok1
        clear hfi hb2 hr2 r0 r1 r2 rf hst2 hsm hok1
        go_wp2_with fail
        refine (K3.out _ (by repeat (first | exact Below.refl _ _ | refine below_dN ?_ _ | refine Below.drew ?_ | refine Below.alloc ?_ (by first | omega | (simp; done) | (simp; omega)) _ | refine Below.setCell ?_ (by first | omega | (simp; done) | (simp; omega)) _ | refine below_step (by assumption) (by first | omega | (simp; done) | (simp; omega)) ?_))).mono ?_
        rintro e w3 ⟨⟨A', c', xs, rfl, hA, hx, hf⟩, hb3⟩
        have hz3 := hb3.size
        simp only [World.size_alloc] at hz3
        have hr3 := ((HR2.out.up ((Below.refl _ _).alloc (Nat.le_refl _) (Obj.cells #[.int .i64 vx, .int .i64 vy] 51))).up ((Below.refl _ _).alloc (Nat.le_refl _) (Obj.cells #[.slice none 0 0, .int .i64 vx, .int .i64 vy] 53))).up hb3
        have he3 := (BxI.new (w2.alloc (Obj.cells #[.int .i64 vx, .int .i64 vy] 51)) 53 #[.slice none 0 0, .int .i64 vx, .int .i64 vy]).up hb3
        simp only [World.size_alloc] at he3
        have r30 := hr3.cell 0 _ rfl
        have r31 := hr3.cell 1 _ rfl
        have r32 := hr3.cell 2 _ rfl
        have r3f := hr3.fz
        have rl3 := hr3.lt
        have e30 := he3.cell 0 _ rfl
        have e31 := he3.cell 1 _ rfl
        have e32 := he3.cell 2 _ rfl
        have e3f := he3.fz
        have el3 := he3.lt
        have hev2 := (HEV.out.trans (show effV (f1 :: i1 :: j1 :: q1) = effV (f1 :: wIf :: j1 :: q1) by rw [HI1.out])).trans (effV_if f1 j1 q1 HFI.out hx)
        have HIS := Lib.hid (show ∀ e, effW line = some e → e = ⟨xs, vx, vy⟩ by
          intro e he
          rw [hev2] at he
          split at he
          · cases he
          · cases he; rfl)
        have HOS := Lib.hid (show (effW line).isSome = (ok1 && (facsW (j1 :: q1)).isSome) by
          rw [hev2, ← HOK1.out]
          cases facW f1 <;> cases facsW (j1 :: q1) <;> rfl)
        obtain ⟨ok2, hok2⟩ : ∃ ok, (facsW (j1 :: q1)).isSome = ok := ⟨_, rfl⟩
        rw [hok2]
        have HOK2 := Lib.hid hok2
        have hbx : Below w.heap.size w w3 := by have := HB2.out; repeat (first | exact Below.refl _ _ | refine below_dN ?_ _ | refine Below.drew ?_ | refine Below.alloc ?_ (by first | omega | (simp; done) | (simp; omega)) _ | refine Below.setCell ?_ (by first | omega | (simp; done) | (simp; omega)) _ | refine below_step (by assumption) (by first | omega | (simp; done) | (simp; omega)) ?_)
        have HB3 := Lib.hid hbx
        have hfx := hf.move (Moves.mono (bad' := fun g => g < w.heap.size + 1) fun g _ h => by have h1 : g < w.heap.size + 1 := h; show g < _; simp; omega)
        have HF := Lib.hid hfx
        have hm : ∀ v0 v1 v2, Moves w3 ((((w3.setCell ⟨w2.heap.size + 1, 0, none⟩ (.slice A' xs.length c')).setCell ⟨w.heap.size, 0, none⟩ v0).setCell ⟨w.heap.size, 1, none⟩ v1).setCell ⟨w.heap.size, 2, none⟩ v2) (fun g => g < w.heap.size + 1 ∨ g = w2.heap.size + 1) (fun g => g < w.heap.size) := fun v0 v1 v2 =>
          ((((Moves.set (p := ⟨w2.heap.size + 1, 0, none⟩) _ (.inr rfl)).trans (Moves.set (p := ⟨w.heap.size, 0, none⟩) _ (.inl (Nat.lt_succ_self _)))).trans (Moves.set (p := ⟨w.heap.size, 1, none⟩) _ (.inl (Nat.lt_succ_self _)))).trans (Moves.set (p := ⟨w.heap.size, 2, none⟩) _ (.inl (Nat.lt_succ_self _)))).trans (Moves.mono fun g _ h => .inl (Nat.lt_succ_of_lt h))
        have hfy := hf.move (Moves.mono (bad' := fun g => g < w.heap.size + 1 ∨ g = w2.heap.size + 1) fun g _ h => by show g < _; simp; rcases h with h | h <;> omega)
        have HFY := Lib.hid (fun v0 v1 v2 => hfy.move (hm v0 v1 v2))
        clear hok2 hev2 hx hA hf hb3 hr3 he3 hbx hfx hm hfy
        cases ok1
        all_goals
          go_wp2
          refine bodyPost_ret (v := .tuple #[.agg #[.slice A' xs.length c', .int .i64 vx, .int .i64 vy], .bool _]) (by simp [results, Tryd.results51, go_sem, ↓IntWalk.iteOmega, *]; rfl) rfl ⟨⟨A', c', xs, vx, vy, by rw [HOS.out, HOK2.out]; rfl, HIS.out, HFY.out _ _ _⟩, (((HB3.out.setCell (p := ⟨w2.heap.size + 1, 0, none⟩) (by show w.heap.size ≤ w2.heap.size + 1; omega) _).setCell (p := ⟨w.heap.size, 0, none⟩) (Nat.le_refl _) _).setCell (p := ⟨w.heap.size, 1, none⟩) (Nat.le_refl _) _).setCell (p := ⟨w.heap.size, 2, none⟩) (Nat.le_refl _) _⟩
      · rw [decide_eq_false hi1] at hbi
        have HNO := Lib.hid (show effW line = none from HEV.out.trans (effV_no hi1))
        clear hi1
        go_wp2
        all_goals (refine bodyPost_ret (v := .tuple #[.agg #[.slice none 0 0, .int .i64 0, .int .i64 0], .bool false]) (by simp [results, Tryd.results51, go_sem, ↓IntWalk.iteOmega, *]) rfl (reff_no HNO.out (by have := HB1.out; repeat (first | exact Below.refl _ _ | refine below_dN ?_ _ | refine Below.drew ?_ | refine Below.alloc ?_ (by first | omega | (simp; done) | (simp; omega)) _ | refine Below.setCell ?_ (by first | omega | (simp; done) | (simp; omega)) _ | refine below_step (by assumption) (by first | omega | (simp; done) | (simp; omega)) ?_))))
end Go.Proofs.YtbcbmpnikgeoeaaDoor

/- The reference's Parse; the law TaskParses. -/
import Derived.Test.YtbcbmpnikgeoeaaDoorTrG
import Derived.Test.YtbcbmpnikgeoeaaDoorMpF
namespace Go.Proofs.YtbcbmpnikgeoeaaDoor
set_option linter.unusedSimpArgs false
set_option linter.unusedVariables false
open Go Go.RowKit
set_option linter.unusedVariables false

def RParRet (s : List UInt8) (w : World) (e : Ending) (w' : World) : Prop :=
  (∃ p : Lies, e = .returned (.tuple #[TaskV (parT s) p, .int .i64 (parC s)]) ∧ TaskAt w' w'.heap.size (parT s) p) ∧ Below w.heap.size w w'
theorem rpar_no {s : List UInt8} {w w' : World} {c : Int} (h : parC s = c ∧ parT s = noT) (hb : Below w.heap.size w w') :
    RParRet s w (.returned (.tuple #[.agg #[.slice none 0 0, .slice none 0 0, .slice none 0 0, .slice none 0 0], .int .i64 c])) w' :=
  ⟨⟨⟨none, none, none, none, 0, 0, 0, 0⟩, by rw [h.1, h.2]; rfl, by rw [h.2]; exact noT_at _ _⟩, hb⟩

set_option maxRecDepth 20000 in
set_option maxHeartbeats 4000000 in
theorem rparse_any (s : List UInt8) (w : World) (hs : s.length ≤ 4000) :
    Calls Tryd.prog 8 #[.string (bs s)] w (RParRet s w) := by
  have hz := bs_size s
  have hl : ¬ 65536 < s.length := by omega
  have k1 := fun wx => rread_any s wx (by omega)
  have K1 := Lib.hid k1
  have HL := Lib.hid hl
  clear k1 hl
  go_enter Tryd.func8, Tryd.ntmps8
  go_wp2_with fail
  refine (K1.out _).mono ?_
  rintro e w1 ⟨⟨p, rfl, hp⟩, hb1⟩
  have hr1 := (BxI.new w 27 #[Value.slice none 0 0, Value.slice none 0 0, Value.slice none 0 0, Value.slice none 0 0]).up hb1
  have hb01 : Below w.heap.size w w1 := by repeat (first | exact Below.refl _ _ | refine below_dN ?_ _ | refine Below.drew ?_ | refine Below.alloc ?_ (by first | omega | (simp; done) | (simp; omega)) _ | refine Below.setCell ?_ (by first | omega | (simp; done) | (simp; omega)) _ | refine below_step (by assumption) (by first | omega | (simp; done) | (simp; omega)) ?_)
  have y0 := hr1.cell 0 _ rfl
  have y1 := hr1.cell 1 _ rfl
  have y2 := hr1.cell 2 _ rfl
  have y3 := hr1.cell 3 _ rfl
  have yf := hr1.fz
  have yl := hr1.lt
  simp only [World.size_alloc] at hp
  have HB1 := Lib.hid hb01
  have HR1 := Lib.hid hr1
  cases htw : taskW s with
  | none =>
    have HNO := Lib.hid (parC_none HL.out htw)
    simp only [htw, Option.isSome_none, Option.getD_none]
    obtain ⟨pv, pi, pg, po, dv, di, dg, dO⟩ := p
    unfold TaskV
    dsimp only [noT]
    clear htw hp hb1 hb01 hr1
    go_wp2
    refine bodyPost_ret (v := .tuple #[.agg #[.slice none 0 0, .slice none 0 0, .slice none 0 0, .slice none 0 0], .int .i64 2]) (by simp [results, Tryd.results8, go_sem, ↓IntWalk.iteOmega, *]) rfl (rpar_no HNO.out (by have := HB1.out; repeat (first | exact Below.refl _ _ | refine below_dN ?_ _ | refine Below.drew ?_ | refine Below.alloc ?_ (by first | omega | (simp; done) | (simp; omega)) _ | refine Below.setCell ?_ (by first | omega | (simp; done) | (simp; omega)) _ | refine below_step (by assumption) (by first | omega | (simp; done) | (simp; omega)) ?_)))
  | some t =>
    have hyes := parC_some HL.out htw
    simp only [htw, Option.isSome_some, Option.getD_some] at hp ⊢
    have ht1 := hp w1 (Moves.mono fun _ _ h => absurd h id)
    have k2 := fun wx (hb : Below w1.heap.size w1 wx) => rcheck_any t p wx (ht1.up hb)
    obtain ⟨pv, pi, pg, po, dv, di, dg, dO⟩ := p
    unfold TaskV at k2 ⊢
    dsimp only at k2 hp ⊢
    have HP := Lib.hid hp
    have K2 := Lib.hid k2
    by_cases hc : chkC t = 0
    · rw [hc, if_pos rfl] at hyes
      have HY := Lib.hid hyes
      have k3 := K2.out
      rw [hc] at k3
      have K3 := Lib.hid k3
      clear htw hp hb1 hb01 hr1 k2 k3 hyes ht1 hc
      go_wp2_with fail
      refine (K3.out _ (by repeat (first | exact Below.refl _ _ | refine below_dN ?_ _ | refine Below.drew ?_ | refine Below.alloc ?_ (by first | omega | (simp; done) | (simp; omega)) _ | refine Below.setCell ?_ (by first | omega | (simp; done) | (simp; omega)) _ | refine below_step (by assumption) (by first | omega | (simp; done) | (simp; omega)) ?_))).mono ?_
      rintro e w2 ⟨rfl, hb2⟩
      obtain ⟨hc2, hf2, hz2, hlt2, hle2⟩ := cellsIf hb2 (by (try simp); exact rfl)
      have hm : ∀ v0 v1 v2 v3, Moves w1 ((((w2.setCell ⟨w.heap.size, 0, none⟩ v0).setCell ⟨w.heap.size, 1, none⟩ v1).setCell ⟨w.heap.size, 2, none⟩ v2).setCell ⟨w.heap.size, 3, none⟩ v3) (fun g => g < w.heap.size + 1) (fun _ => False) := fun v0 v1 v2 v3 =>
        (((((Moves.up (show Below w1.heap.size w1 w2 by repeat (first | exact Below.refl _ _ | refine below_dN ?_ _ | refine Below.drew ?_ | refine Below.alloc ?_ (by first | omega | (simp; done) | (simp; omega)) _ | refine Below.setCell ?_ (by first | omega | (simp; done) | (simp; omega)) _ | refine below_step (by assumption) (by first | omega | (simp; done) | (simp; omega)) ?_))).trans (Moves.set (p := ⟨w.heap.size, 0, none⟩) _ (Nat.lt_succ_self _))).trans (Moves.set (p := ⟨w.heap.size, 1, none⟩) _ (Nat.lt_succ_self _))).trans (Moves.set (p := ⟨w.heap.size, 2, none⟩) _ (Nat.lt_succ_self _))).trans (Moves.set (p := ⟨w.heap.size, 3, none⟩) _ (Nat.lt_succ_self _))).trans (Moves.mono fun _ _ h => absurd h id)
      have hb02 : Below w.heap.size w w2 := by have := HB1.out; repeat (first | exact Below.refl _ _ | refine below_dN ?_ _ | refine Below.drew ?_ | refine Below.alloc ?_ (by first | omega | (simp; done) | (simp; omega)) _ | refine Below.setCell ?_ (by first | omega | (simp; done) | (simp; omega)) _ | refine below_step (by assumption) (by first | omega | (simp; done) | (simp; omega)) ?_)
      have HM := Lib.hid (fun v0 v1 v2 v3 => HP.out _ (hm v0 v1 v2 v3))
      have HB2 := Lib.hid hb02
      clear hm hb02
      go_wp2
      refine bodyPost_ret (v := .tuple #[.agg #[.slice pv t.vars.length dv, .slice pi t.init.length di, .slice pg t.goal.length dg, .slice po t.ops.length dO], .int .i64 0]) (by simp [results, Tryd.results8, go_sem, ↓IntWalk.iteOmega, *]) rfl ⟨⟨⟨pv, pi, pg, po, dv, di, dg, dO⟩, by rw [HY.out.1, HY.out.2]; rfl, by rw [HY.out.2]; exact HM.out _ _ _ _⟩, (((HB2.out.setCell (p := ⟨w.heap.size, 0, none⟩) (Nat.le_refl _) _).setCell (p := ⟨w.heap.size, 1, none⟩) (Nat.le_refl _) _).setCell (p := ⟨w.heap.size, 2, none⟩) (Nat.le_refl _) _).setCell (p := ⟨w.heap.size, 3, none⟩) (Nat.le_refl _) _⟩
    · rw [if_neg hc] at hyes
      have HY := Lib.hid hyes
      have hc' : ((chkC t : Int) != 0) = true := by simpa using hc
      clear htw hp hb1 hb01 hr1 k2 hyes ht1
      go_wp2_with fail
      refine (K2.out _ (by repeat (first | exact Below.refl _ _ | refine below_dN ?_ _ | refine Below.drew ?_ | refine Below.alloc ?_ (by first | omega | (simp; done) | (simp; omega)) _ | refine Below.setCell ?_ (by first | omega | (simp; done) | (simp; omega)) _ | refine below_step (by assumption) (by first | omega | (simp; done) | (simp; omega)) ?_))).mono ?_
      rintro e w2 ⟨rfl, hb2⟩
      obtain ⟨hc2, hf2, hz2, hlt2, hle2⟩ := cellsIf hb2 (by (try simp); exact rfl)
      have hb02 : Below w.heap.size w w2 := by have := HB1.out; repeat (first | exact Below.refl _ _ | refine below_dN ?_ _ | refine Below.drew ?_ | refine Below.alloc ?_ (by first | omega | (simp; done) | (simp; omega)) _ | refine Below.setCell ?_ (by first | omega | (simp; done) | (simp; omega)) _ | refine below_step (by assumption) (by first | omega | (simp; done) | (simp; omega)) ?_)
      have HB2 := Lib.hid hb02
      clear hb02
      go_wp2
      refine bodyPost_ret (v := .tuple #[.agg #[.slice none 0 0, .slice none 0 0, .slice none 0 0, .slice none 0 0], .int .i64 (chkC t)]) (by simp [results, Tryd.results8, go_sem, ↓IntWalk.iteOmega, *]) rfl (rpar_no HY.out (by have := HB2.out; repeat (first | exact Below.refl _ _ | refine below_dN ?_ _ | refine Below.drew ?_ | refine Below.alloc ?_ (by first | omega | (simp; done) | (simp; omega)) _ | refine Below.setCell ?_ (by first | omega | (simp; done) | (simp; omega)) _ | refine below_step (by assumption) (by first | omega | (simp; done) | (simp; omega)) ?_)))

set_option maxRecDepth 20000 in
set_option maxHeartbeats 4000000 in
theorem taskParses_any (text : ByteArray) (w : World) (hE : Env w) :
    Calls Tryd.prog 3 #[.string text] w fun e w' => e = .returned (.bool true) ∧ Below w.heap.size w w' := by
  obtain ⟨s, rfl⟩ : ∃ s, text = bs s := ⟨text.data.toList, (bs_of text).symm⟩
  have hz := bs_size s
  have k0 := fun w1 => awake05_any w1
  have K0 := Lib.hid k0
  have HE := Lib.hid hE
  clear k0 hE
  by_cases h4 : 4000 < s.length
  · go_enter Tryd.func3, Tryd.ntmps3
    go_wp2_with fail; refine (K0.out _).mono ?_; rintro e w1 ⟨rfl, hb1⟩; obtain ⟨hc1, hf1, hz1, hlt1, hle1⟩ := cellsIf hb1 (by (try simp); exact rfl); (try have : w.heap.size < w1.heap.size := (by omega)); (try have : w.heap.size < w1.heap.size + 1 := (by omega)); (try have : w.heap.size < w1.heap.size + 1 + 1 := (by omega)); (try have : w.heap.size + 1 < w1.heap.size := (by omega)); (try have : w.heap.size + 1 < w1.heap.size + 1 := (by omega)); (try have : w.heap.size + 1 < w1.heap.size + 1 + 1 := (by omega)); (try have : w.heap.size + 1 + 1 < w1.heap.size := (by omega)); (try have : w.heap.size + 1 + 1 < w1.heap.size + 1 := (by omega)); (try have : w.heap.size + 1 + 1 < w1.heap.size + 1 + 1 := (by omega))
    go_wp2
    go_ret
    exact ⟨rfl, by repeat (first | exact Below.refl _ _ | refine below_dN ?_ _ | refine Below.drew ?_ | refine Below.alloc ?_ (by first | omega | (simp; done) | (simp; omega)) _ | refine Below.setCell ?_ (by first | omega | (simp; done) | (simp; omega)) _ | refine below_step (by assumption) (by first | omega | (simp; done) | (simp; omega)) ?_)⟩
  · have k2 := fun wx => rparse_any s wx (by omega)
    have K2 := Lib.hid k2
    have kn := fun wx => num_any (parC s) wx
    have KN := Lib.hid kn
    clear k2 kn
    go_enter Tryd.func3, Tryd.ntmps3
    go_wp2_with fail; refine (K0.out _).mono ?_; rintro e w1 ⟨rfl, hb1⟩; obtain ⟨hc1, hf1, hz1, hlt1, hle1⟩ := cellsIf hb1 (by (try simp); exact rfl); (try have : w.heap.size < w1.heap.size := (by omega)); (try have : w.heap.size < w1.heap.size + 1 := (by omega)); (try have : w.heap.size < w1.heap.size + 1 + 1 := (by omega)); (try have : w.heap.size + 1 < w1.heap.size := (by omega)); (try have : w.heap.size + 1 < w1.heap.size + 1 := (by omega)); (try have : w.heap.size + 1 < w1.heap.size + 1 + 1 := (by omega)); (try have : w.heap.size + 1 + 1 < w1.heap.size := (by omega)); (try have : w.heap.size + 1 + 1 < w1.heap.size + 1 := (by omega)); (try have : w.heap.size + 1 + 1 < w1.heap.size + 1 + 1 := (by omega))
    go_wp2_with fail
    refine (pparse_any s _ (HE.out.up (by repeat (first | exact Below.refl _ _ | refine below_dN ?_ _ | refine Below.drew ?_ | refine Below.alloc ?_ (by first | omega | (simp; done) | (simp; omega)) _ | refine Below.setCell ?_ (by first | omega | (simp; done) | (simp; omega)) _ | refine below_step (by assumption) (by first | omega | (simp; done) | (simp; omega)) ?_)))).mono ?_
    rintro e w2 ⟨p, rfl, hp, hb2, -⟩
    obtain ⟨hc2, hf2, hz2, hlt2, hle2⟩ := cellsIf hb2 (by (try simp); exact rfl)
    have HP := Lib.hid hp
    clear hp
    obtain ⟨pv, pi, pg, po, dv, di, dg, dO⟩ := p
    unfold TaskV
    dsimp only
    go_wp2_with fail
    refine (K2.out _).mono ?_
    rintro e w3 ⟨⟨q, rfl, hq⟩, hb3⟩
    obtain ⟨hc3, hf3, hz3, hlt3, hle3⟩ := cellsIf hb3 (by (try simp); exact rfl)
    have HQ := Lib.hid hq
    clear hq
    have k5 := fun wx (h : TaskAt wx wx.heap.size (parT s) ⟨pv, pi, pg, po, dv, di, dg, dO⟩) (h2 : TaskAt wx wx.heap.size (parT s) q) => btasks_same (parT s) _ q wx h h2
    obtain ⟨qv, qi, qg, qo, ev, ei, eg, eo⟩ := q
    unfold TaskV at k5 ⊢
    dsimp only at k5 ⊢
    have K5 := Lib.hid k5
    clear k5
    have hbb := hb2
    go_wp2_with fail
    refine (KN.out _).mono ?_
    rintro e w4 ⟨rfl, rfl⟩
    go_wp2_with fail
    refine (K5.out _ (HP.out.up (by repeat (first | exact Below.refl _ _ | refine below_dN ?_ _ | refine Below.drew ?_ | refine Below.alloc ?_ (by first | omega | (simp; done) | (simp; omega)) _ | refine Below.setCell ?_ (by first | omega | (simp; done) | (simp; omega)) _ | refine below_step (by assumption) (by first | omega | (simp; done) | (simp; omega)) ?_))) (HQ.out.up (by repeat (first | exact Below.refl _ _ | refine below_dN ?_ _ | refine Below.drew ?_ | refine Below.alloc ?_ (by first | omega | (simp; done) | (simp; omega)) _ | refine Below.setCell ?_ (by first | omega | (simp; done) | (simp; omega)) _ | refine below_step (by assumption) (by first | omega | (simp; done) | (simp; omega)) ?_)))).mono ?_
    rintro e w5 ⟨rfl, hb5⟩
    go_wp2
    go_ret
    exact ⟨bool_ret (by simp), by repeat (first | exact Below.refl _ _ | refine below_dN ?_ _ | refine Below.drew ?_ | refine Below.alloc ?_ (by first | omega | (simp; done) | (simp; omega)) _ | refine Below.setCell ?_ (by first | omega | (simp; done) | (simp; omega)) _ | refine below_step (by assumption) (by first | omega | (simp; done) | (simp; omega)) ?_)⟩
end Go.Proofs.YtbcbmpnikgeoeaaDoor

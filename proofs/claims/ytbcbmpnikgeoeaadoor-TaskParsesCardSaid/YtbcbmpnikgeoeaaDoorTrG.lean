/- The reference's read: walked. -/
import Derived.Test.YtbcbmpnikgeoeaaDoorMpA
import Derived.Test.YtbcbmpnikgeoeaaDoorTrF
import Derived.Test.YtbcbmpnikgeoeaaDoorMpB
namespace Go.Proofs.YtbcbmpnikgeoeaaDoor
set_option linter.unusedSimpArgs false
set_option linter.unusedVariables false
open Go Go.RowKit
set_option linter.unusedVariables false

/-- What read answers. -/
def RReadRet (s : List UInt8) (w : World) (e : Ending) (w' : World) : Prop :=
  (∃ p : Lies, e = .returned (.tuple #[TaskV ((taskW s).getD noT) p, .bool (taskW s).isSome]) ∧ ∀ w'' : World, Moves w' w'' (fun g => g < w.heap.size) (fun _ => False) → TaskAt w'' w''.heap.size ((taskW s).getD noT) p) ∧ Below w.heap.size w w'
theorem own_mv {w w' : World} {bad bad' : Nat → Prop} {B s n : Nat} {e : TypeId} {v : Value} {xs : List Value} (h : w.ownsRow B e s v n xs) (m : Moves w w' bad bad') (hb : ∀ g, v.ownBlock = some g → ¬ bad g) : w'.ownsRow B e s v n xs := by
  rcases h.2 with ⟨rfl, h0⟩ | ⟨g, cap, cur, rfl, hB, hg, hh⟩
  · exact ⟨h.1, .inl ⟨rfl, h0⟩⟩
  · exact ⟨h.1, .inr ⟨g, cap, cur, rfl, hB, (m.block g (Array.getElem?_eq_some_iff.1 hg).1 (hb g rfl)).trans hg, hh⟩⟩
theorem rread_no {s : List UInt8} {w w' : World} (h : taskW s = none) (hb : Below w.heap.size w w') : RReadRet s w (.returned (.tuple #[.agg #[.slice none 0 0, .slice none 0 0, .slice none 0 0, .slice none 0 0], .bool false])) w' :=
  ⟨⟨⟨none, none, none, none, 0, 0, 0, 0⟩, by rw [h]; rfl, fun w'' _ => by rw [h]; exact noT_at _ _⟩, hb⟩
theorem taskW_last (s : List UInt8) : taskW s = if lastP (pcs 10 s) = [] then linesW (pcs 10 s).dropLast else none := by
  unfold taskW
  have h := pcs_ne 10 s
  by_cases e : lastP (pcs 10 s) = []
  · rw [if_pos e, if_pos]
    rw [← dl_last h, List.getLast?_concat, e]
  · rw [if_neg e, if_neg]
    intro e2
    rw [← dl_last h, List.getLast?_concat] at e2
    exact e (Option.some.inj e2)
theorem isW_of_eff {l : List UInt8} {e : Eff} (h : effW l = some e) : isW wEff l = true := by
  unfold effW lineW at h
  split at h
  · rename_i hh; split at hh
    · assumption
    · cases hh
  · cases h
theorem txt_dropc {l : List (List UInt8)} {k : Nat} (h : k < l.length) : l.drop k = txt l k :: l.drop (k + 1) := by
  rw [List.drop_eq_getElem_cons h]
  unfold txt
  simp [List.getD, List.getElem?_eq_getElem h]

set_option maxRecDepth 20000 in
set_option maxHeartbeats 16000000 in
theorem rread_any (s : List UInt8) (w : World) (hs : s.length ≤ 65536) :
    Calls Tryd.prog 23 #[.string (bs s)] w (RReadRet s w) := by
  have k1 := fun w1 => rlines_any s w1 hs
  obtain ⟨s1, s2⟩ := pcs_small 10 _ s (Nat.le_refl _)
  have htw := taskW_last s
  have hdl := dl_last (pcs_ne 10 s)
  have hll : (pcs 10 s).dropLast.length ≤ 65536 := by rw [List.length_dropLast]; omega
  have hsl : ∀ p ∈ (pcs 10 s).dropLast, p.length ≤ 65536 := fun p hp => Nat.le_trans (s2 p (List.dropLast_subset _ hp)) hs
  generalize (pcs 10 s).dropLast = ls at *
  have HT := Lib.hid htw
  have K1 := Lib.hid k1
  have HSL := Lib.hid hsl
  clear htw k1 hsl hdl s1 s2
  go_enter Tryd.func23, Tryd.ntmps23
  go_wp2_with fail
  refine (K1.out _).mono ?_
  rintro e w1 ⟨⟨v, rfl, hgot⟩, hb1⟩
  simp only [World.size_alloc] at hgot
  obtain ⟨A1, c1, rfl, hc1, hst⟩ := gotStrs hgot (by omega) HSL.out
  have hr1 := (BxI.new w 27 #[Value.slice none 0 0, Value.slice none 0 0, Value.slice none 0 0, Value.slice none 0 0]).up hb1
  have hb01 : Below w.heap.size w w1 := by repeat (first | exact Below.refl _ _ | refine below_dN ?_ _ | refine Below.drew ?_ | refine Below.alloc ?_ (by first | omega | (simp; done) | (simp; omega)) _ | refine Below.setCell ?_ (by first | omega | (simp; done) | (simp; omega)) _ | refine below_step (by assumption) (by first | omega | (simp; done) | (simp; omega)) ?_)
  have HST := Lib.hid hst
  have HR1 := Lib.hid hr1
  have HB1 := Lib.hid hb01
  have hz01 := hr1.lt
  clear hgot hst hr1 hb1 hb01
  by_cases hok : lastP (pcs 10 s) = []
  case neg =>
    have HNO := Lib.hid (show taskW s = none by rw [HT.out, if_neg hok])
    rw [decide_eq_false hok]
    clear hok
    have y0 := HR1.out.cell 0 _ rfl
    have y1 := HR1.out.cell 1 _ rfl
    have y2 := HR1.out.cell 2 _ rfl
    have y3 := HR1.out.cell 3 _ rfl
    have yf := HR1.out.fz
    have yl := HR1.out.lt
    go_wp2
    refine bodyPost_ret (v := .tuple #[.agg #[.slice none 0 0, .slice none 0 0, .slice none 0 0, .slice none 0 0], .bool false]) (by simp [results, Tryd.results23, go_sem, ↓IntWalk.iteOmega, *]) rfl (rread_no HNO.out (by have := HB1.out; repeat (first | exact Below.refl _ _ | refine below_dN ?_ _ | refine Below.drew ?_ | refine Below.alloc ?_ (by first | omega | (simp; done) | (simp; omega)) _ | refine Below.setCell ?_ (by first | omega | (simp; done) | (simp; omega)) _ | refine below_step (by assumption) (by first | omega | (simp; done) | (simp; omega)) ?_)))
  case pos =>
    rw [decide_eq_true hok]
    have HTL := Lib.hid (show taskW s = linesW ls by rw [HT.out, if_pos hok])
    clear hok
    match ls, HST, HTL, hc1, hll, HSL with
    | [], HST, HTL, hc1, hll, HSL =>
      simp only [List.length_nil, List.length_cons] at *
      have y0 := HR1.out.cell 0 _ rfl
      have y1 := HR1.out.cell 1 _ rfl
      have y2 := HR1.out.cell 2 _ rfl
      have y3 := HR1.out.cell 3 _ rfl
      have yf := HR1.out.fz
      have yl := HR1.out.lt
      go_wp2
      refine bodyPost_ret (v := .tuple #[.agg #[.slice none 0 0, .slice none 0 0, .slice none 0 0, .slice none 0 0], .bool false]) (by simp [results, Tryd.results23, go_sem, ↓IntWalk.iteOmega, *]) rfl (rread_no HTL.out (by have := HB1.out; repeat (first | exact Below.refl _ _ | refine below_dN ?_ _ | refine Below.drew ?_ | refine Below.alloc ?_ (by first | omega | (simp; done) | (simp; omega)) _ | refine Below.setCell ?_ (by first | omega | (simp; done) | (simp; omega)) _ | refine below_step (by assumption) (by first | omega | (simp; done) | (simp; omega)) ?_)))
    | [_], HST, HTL, hc1, hll, HSL =>
      simp only [List.length_nil, List.length_cons] at *
      have y0 := HR1.out.cell 0 _ rfl
      have y1 := HR1.out.cell 1 _ rfl
      have y2 := HR1.out.cell 2 _ rfl
      have y3 := HR1.out.cell 3 _ rfl
      have yf := HR1.out.fz
      have yl := HR1.out.lt
      go_wp2
      refine bodyPost_ret (v := .tuple #[.agg #[.slice none 0 0, .slice none 0 0, .slice none 0 0, .slice none 0 0], .bool false]) (by simp [results, Tryd.results23, go_sem, ↓IntWalk.iteOmega, *]) rfl (rread_no HTL.out (by have := HB1.out; repeat (first | exact Below.refl _ _ | refine below_dN ?_ _ | refine Below.drew ?_ | refine Below.alloc ?_ (by first | omega | (simp; done) | (simp; omega)) _ | refine Below.setCell ?_ (by first | omega | (simp; done) | (simp; omega)) _ | refine below_step (by assumption) (by first | omega | (simp; done) | (simp; omega)) ?_)))
    | [_, _], HST, HTL, hc1, hll, HSL =>
      simp only [List.length_nil, List.length_cons] at *
      have y0 := HR1.out.cell 0 _ rfl
      have y1 := HR1.out.cell 1 _ rfl
      have y2 := HR1.out.cell 2 _ rfl
      have y3 := HR1.out.cell 3 _ rfl
      have yf := HR1.out.fz
      have yl := HR1.out.lt
      go_wp2
      refine bodyPost_ret (v := .tuple #[.agg #[.slice none 0 0, .slice none 0 0, .slice none 0 0, .slice none 0 0], .bool false]) (by simp [results, Tryd.results23, go_sem, ↓IntWalk.iteOmega, *]) rfl (rread_no HTL.out (by have := HB1.out; repeat (first | exact Below.refl _ _ | refine below_dN ?_ _ | refine Below.drew ?_ | refine Below.alloc ?_ (by first | omega | (simp; done) | (simp; omega)) _ | refine Below.setCell ?_ (by first | omega | (simp; done) | (simp; omega)) _ | refine below_step (by assumption) (by first | omega | (simp; done) | (simp; omega)) ?_)))
    | l0 :: l1 :: l2 :: q0, HST, HTL, hc1, hll, HSL =>
      obtain ⟨bA, oA, rfl, hbl, hbn, hd0⟩ := HST.out.at_ (k := 0) (by simp)
      obtain ⟨b', o', e', _, _, hd1⟩ := HST.out.at_ (k := 1) (by simp)
      injection e' with e'
      injection e' with e1 e2 _
      subst e1 e2
      obtain ⟨b', o', e', _, _, hd2⟩ := HST.out.at_ (k := 2) (by simp)
      injection e' with e'
      injection e' with e1 e2 _
      subst e1 e2
      rw [show txt (l0 :: l1 :: l2 :: q0) 0 = l0 from rfl, Nat.add_zero] at hd0
      rw [show txt (l0 :: l1 :: l2 :: q0) 1 = l1 from rfl] at hd1
      rw [show txt (l0 :: l1 :: l2 :: q0) 2 = l2 from rfl] at hd2
      have k2 := fun wx => rlist_any l0 wVars wx (HSL.out l0 (by simp))
      have k3 := fun wx => rlist_any l1 wInit wx (HSL.out l1 (by simp))
      have k4 := fun wx => rcond_any l2 wGoal wx (HSL.out l2 (by simp))
      have HLD := Lib.hid (linesW_def l0 l1 l2 q0)
      have K2 := Lib.hid k2
      have K3 := Lib.hid k3
      have K4 := Lib.hid k4
      clear k2 k3 k4
      simp only [List.length_cons] at hc1 hll
      rw [show (l0 :: l1 :: l2 :: q0).length = q0.length + 1 + 1 + 1 from rfl]
      go_wp2_with fail
      refine (K2.out _).mono ?_
      rintro e w2 ⟨⟨A2, c2, xs2, rfl, ha2, hx2, hi2⟩, hb2⟩
      have hz2 := hb2.size
      have hd1 := (hb2.cell (p := ⟨bA, oA + 1, none⟩) hbl).trans hd1
      have hd2 := (hb2.cell (p := ⟨bA, oA + 2, none⟩) hbl).trans hd2
      have HX2 := Lib.hid hx2
      have HI2 := Lib.hid hi2
      have HB2 := Lib.hid hb2
      clear hx2 hi2 hb2
      go_wp2_with fail
      refine (K3.out _).mono ?_
      rintro e w3 ⟨⟨A3, c3, xs3, rfl, ha3, hx3, hi3⟩, hb3⟩
      have hz3 := hb3.size
      have hd2 := (hb3.cell (p := ⟨bA, oA + 2, none⟩) (by show bA < w2.heap.size; omega)).trans hd2
      have HX3 := Lib.hid hx3
      have HI3 := Lib.hid hi3
      have HB3 := Lib.hid hb3
      clear hx3 hi3 hb3
      go_wp2_with fail
      refine (K4.out _).mono ?_
      rintro e w4 ⟨⟨A4, c4, xs4, rfl, ha4, hx4, hi4⟩, hb4⟩
      have hz4 := hb4.size
      have HX4 := Lib.hid hx4
      have HI4 := Lib.hid hi4
      have HB4 := Lib.hid hb4
      clear hx4 hi4 hb4 hd0 hd1 hd2
      have hb14 : Below w1.heap.size w1 w4 := (HB2.out.trans (HB3.out.mono hz2)).trans (HB4.out.mono (by omega))
      have HB14 := Lib.hid hb14
      have hr4 := HR1.out.up hb14
      have HR4 := Lib.hid hr4
      have HBW4 := Lib.hid (HB1.out.trans (hb14.mono (by omega)))
      have hst4 := HST.out.up hb14
      have HST4 := Lib.hid hst4
      clear hb14 hr4 hst4
      obtain ⟨o1, ho1⟩ : ∃ o, (lineW wVars l0).bind numsW = o := ⟨_, rfl⟩
      obtain ⟨o2, ho2⟩ : ∃ o, (lineW wInit l1).bind numsW = o := ⟨_, rfl⟩
      obtain ⟨o3, ho3⟩ : ∃ o, (lineW wGoal l2).bind facsW = o := ⟨_, rfl⟩
      have hld := HLD.out
      rw [ho1, ho2, ho3] at hld
      have hx2 := HX2.out
      have hx3 := HX3.out
      have hx4 := HX4.out
      rw [ho1] at hx2 ⊢
      rw [ho2] at hx3 ⊢
      rw [ho3] at hx4 ⊢
      clear ho1 ho2 ho3
      cases o1 with
      | none =>
        have HNO := Lib.hid (show taskW s = none from HTL.out.trans hld)
        clear hld hx2 hx3 hx4
        simp only [Option.isSome_none]
        have y0 := HR4.out.cell 0 _ rfl
        have y1 := HR4.out.cell 1 _ rfl
        have y2 := HR4.out.cell 2 _ rfl
        have y3 := HR4.out.cell 3 _ rfl
        have yf := HR4.out.fz
        have yl := HR4.out.lt
        go_wp2
        refine bodyPost_ret (v := .tuple #[.agg #[.slice none 0 0, .slice none 0 0, .slice none 0 0, .slice none 0 0], .bool false]) (by simp [results, Tryd.results23, go_sem, ↓IntWalk.iteOmega, *]) rfl (rread_no HNO.out (by have := HBW4.out; repeat (first | exact Below.refl _ _ | refine below_dN ?_ _ | refine Below.drew ?_ | refine Below.alloc ?_ (by first | omega | (simp; done) | (simp; omega)) _ | refine Below.setCell ?_ (by first | omega | (simp; done) | (simp; omega)) _ | refine below_step (by assumption) (by first | omega | (simp; done) | (simp; omega)) ?_)))
      | some v1 =>
      cases o2 with
      | none =>
        have HNO := Lib.hid (show taskW s = none from HTL.out.trans hld)
        clear hld hx2 hx3 hx4
        simp only [Option.isSome_none, Option.isSome_some]
        have y0 := HR4.out.cell 0 _ rfl
        have y1 := HR4.out.cell 1 _ rfl
        have y2 := HR4.out.cell 2 _ rfl
        have y3 := HR4.out.cell 3 _ rfl
        have yf := HR4.out.fz
        have yl := HR4.out.lt
        go_wp2
        refine bodyPost_ret (v := .tuple #[.agg #[.slice none 0 0, .slice none 0 0, .slice none 0 0, .slice none 0 0], .bool false]) (by simp [results, Tryd.results23, go_sem, ↓IntWalk.iteOmega, *]) rfl (rread_no HNO.out (by have := HBW4.out; repeat (first | exact Below.refl _ _ | refine below_dN ?_ _ | refine Below.drew ?_ | refine Below.alloc ?_ (by first | omega | (simp; done) | (simp; omega)) _ | refine Below.setCell ?_ (by first | omega | (simp; done) | (simp; omega)) _ | refine below_step (by assumption) (by first | omega | (simp; done) | (simp; omega)) ?_)))
      | some v2 =>
      cases o3 with
      | none =>
        have HNO := Lib.hid (show taskW s = none from HTL.out.trans hld)
        clear hld hx2 hx3 hx4
        simp only [Option.isSome_none, Option.isSome_some]
        have y0 := HR4.out.cell 0 _ rfl
        have y1 := HR4.out.cell 1 _ rfl
        have y2 := HR4.out.cell 2 _ rfl
        have y3 := HR4.out.cell 3 _ rfl
        have yf := HR4.out.fz
        have yl := HR4.out.lt
        go_wp2
        refine bodyPost_ret (v := .tuple #[.agg #[.slice none 0 0, .slice none 0 0, .slice none 0 0, .slice none 0 0], .bool false]) (by simp [results, Tryd.results23, go_sem, ↓IntWalk.iteOmega, *]) rfl (rread_no HNO.out (by have := HBW4.out; repeat (first | exact Below.refl _ _ | refine below_dN ?_ _ | refine Below.drew ?_ | refine Below.alloc ?_ (by first | omega | (simp; done) | (simp; omega)) _ | refine Below.setCell ?_ (by first | omega | (simp; done) | (simp; omega)) _ | refine below_step (by assumption) (by first | omega | (simp; done) | (simp; omega)) ?_)))
      | some v3 =>
      obtain rfl := hx2 v1 rfl
      obtain rfl := hx3 v2 rfl
      obtain rfl := hx4 v3 rfl
      have HLL := Lib.hid (show linesW (l0 :: l1 :: l2 :: q0) = (opsF q0).map fun d => ⟨xs2, xs3, xs4, d⟩ by rw [hld]; cases opsF q0 <;> rfl)
      clear hld hx2 hx3 hx4
      simp only [Option.isSome_some]
      go_wp2
      obtain ⟨wl, hwl⟩ : ∃ wl : World, w4.alloc (Obj.cells #[.slice A2 xs2.length c2, .slice A3 xs3.length c3, .slice A4 xs4.length c4, .slice none 0 0] 27) = wl := ⟨_, rfl⟩
      have hwz : wl.heap.size = w4.heap.size + 1 := by rw [← hwl]; simp
      have hxl := BxI.new w4 27 #[.slice A2 xs2.length c2, .slice A3 xs3.length c3, .slice A4 xs4.length c4, .slice none 0 0]
      have hup := (Below.refl w4.heap.size w4).alloc (Nat.le_refl _) (Obj.cells #[.slice A2 xs2.length c2, .slice A3 xs3.length c3, .slice A4 xs4.length c4, .slice none 0 0] 27)
      rw [hwl] at hxl hup ⊢
      have hbad : ∀ g, g < w.heap.size + 1 ∨ g = w4.heap.size → g < w4.heap.size → g < w.heap.size + 1 := fun g h h2 => by rcases h with h | h; exact h; omega
      have hm4 : Moves w4 wl (fun g => g < w.heap.size + 1) (fun g => g < w.heap.size + 1 ∨ g = w4.heap.size) := ⟨hup.size, fun g h _ => hup.block g h, fun g hg h => hbad g h hg⟩
      have hi2l := ((HI2.out.move (Moves.mono (bad' := fun g => g < w.heap.size + 1) fun g _ h => by have h1 : g < w.heap.size + 1 := h; show g < w1.heap.size; omega)).move (Moves.up (HB3.out.trans (HB4.out.mono hz3)))).move hm4
      have hi3l := ((HI3.out.move (Moves.mono (bad' := fun g => g < w.heap.size + 1) fun g _ h => by have h1 : g < w.heap.size + 1 := h; show g < w2.heap.size; omega)).move (Moves.up HB4.out)).move hm4
      have hi4l := (HI4.out.move (Moves.mono (bad' := fun g => g < w.heap.size + 1) fun g _ h => by have h1 : g < w.heap.size + 1 := h; show g < w3.heap.size; omega)).move hm4
      have HXL := Lib.hid hxl
      have HI2L := Lib.hid hi2l
      have HI3L := Lib.hid hi3l
      have HI4L := Lib.hid hi4l
      have HRL := Lib.hid (HR4.out.up hup)
      have HBL := Lib.hid (HBW4.out.trans (hup.mono (by omega)))
      have HSTL := Lib.hid (HST4.out.up hup)
      clear hxl hup hbad hm4 hi2l hi3l hi4l hwl
      have hB0 : w.heap.size < w4.heap.size := by omega
      have hTB : w4.heap.size < wl.heap.size := by omega
      have fkb : ∀ wt, Kb (fun g => g = w4.heap.size) wl wt → Below w.heap.size w wt ∧ BxI wt w.heap.size 27 #[Value.slice none 0 0, Value.slice none 0 0, Value.slice none 0 0, Value.slice none 0 0] ∧ StrsAt wt (fun g => g = w4.heap.size) (some ⟨bA, oA, none⟩) (l0 :: l1 :: l2 :: q0) := by
        intro wt hk
        refine ⟨HBL.out.trans (hk.below (fun g hg e => by omega) (by omega)), HRL.out.kb hk (by omega), ?_⟩
        obtain ⟨h1, h2, h3⟩ := HSTL.out
        refine ⟨h1, h2, fun hn => ?_⟩
        obtain ⟨b, off, e, hb, hx, hc⟩ := h3 hn
        injection e with e
        injection e with e1 e2 _
        subst e1 e2
        exact ⟨bA, oA, rfl, Nat.lt_of_lt_of_le hb hk.size, by show bA ≠ w4.heap.size; omega, fun k hk2 => (hk.cell (p := ⟨bA, _, none⟩) hb (by show bA ≠ w4.heap.size; omega)).trans (hc k hk2)⟩
      have FKB := Lib.hid fkb
      have hnone : opsF q0 = none → taskW s = none := fun h => by rw [HTL.out, HLL.out, h]; rfl
      have HNONE := Lib.hid hnone
      obtain ⟨n, hn⟩ : ∃ n, (l0 :: l1 :: l2 :: q0).length = n := ⟨_, rfl⟩
      have hnq : q0.length + 1 + 1 + 1 = n := hn
      have hn3 : 3 ≤ n := by omega
      have hq0 : q0 = (l0 :: l1 :: l2 :: q0).drop 3 := rfl
      generalize l0 :: l1 :: l2 :: q0 = ls at *
      have HN := Lib.hid hn
      have HQ0 := Lib.hid hq0
      clear fkb hnone hn hq0
      rw [hnq]
      have hn65 : n ≤ 65537 := by omega
      clear hnq hc1 hll
      obtain ⟨infO, hiO, oz0, oz1, oz2⟩ := info_parts qinfoOp
      obtain ⟨infE, hiE, ez0, ez1, ez2⟩ := info_parts qinfoEf
      go_loopw [13] (fun i wr => ∃ (k : Nat) (os : List Opr) (O : Value) (xv : List Value), 3 ≤ k ∧ k ≤ n ∧ os.length ≤ k ∧ i = .int .i64 k ∧ Hid (RdI wl.heap.size w4.heap.size wl wr (.slice A2 xs2.length c2) (.slice A3 xs3.length c3) (.slice A4 xs4.length c4) os O xv) ∧ ((k = 3 ∧ os = [] ∧ xv = []) ∨ (3 < k ∧ ∃ init o S cS E xi ev, o.effs.length ≤ k ∧ Hid (RdO wl.heap.size wr q0 (ls.drop k) os O xv init o S cS E xi ev)))) (fun i _ => n - (intOf i).toNat)
      case atStart => exact ⟨3, [], .slice none 0 0, [], Nat.le_refl _, hn3, by simp, rfl, Lib.hid ⟨World.ownsRow_nil _ _ _ _, HXL.out, Kb.refl _ _⟩, .inl ⟨rfl, rfl, rfl⟩⟩
      case round =>
        obtain ⟨k, os, O, xv, hk3, hkn, hosl, rfl, HI, hst⟩ := hrel
        obtain ⟨wt, rfl⟩ : ∃ wt : World, wt = wr := ⟨_, rfl⟩
        obtain ⟨hbw, hrt, hls⟩ := FKB.out wt HI.out.kb
        have hzt := HI.out.kb.size
        obtain ⟨AO, cO, rfl⟩ := own_shape HI.out.own
        have HBW := Lib.hid hbw
        have HRT := Lib.hid hrt
        have HLS := Lib.hid hls
        have hbw' := hbw.size
        clear hbw hrt hls
        by_cases hlt : k < n
        · obtain ⟨b', o', e', hbAl, _, hd⟩ := HLS.out.at_ (k := k) (by rw [HN.out]; exact hlt)
          injection e' with e'
          injection e' with e1 e2 _
          subst e1 e2
          have hsm := HLS.out.small (k := k) (by rw [HN.out]; exact hlt)
          have hdr := txt_dropc (l := ls) (k := k) (by rw [HN.out]; exact hlt)
          generalize hl : txt ls k = l at *
          have k5 := reff_any l wt hsm
          have K5 := Lib.hid k5
          have HDR := Lib.hid hdr
          have HSM := Lib.hid hsm
          clear k5 hdr hsm hl
          go_wp2_with fail
          refine K5.out.mono ?_
          rintro e w5 ⟨⟨S5, c5, whn, vx, vy, rfl, hx5, hf5⟩, hb5⟩
          have hz5 := hb5.size
          have HX5 := Lib.hid hx5
          have HF5 := Lib.hid hf5
          have HB5 := Lib.hid hb5
          have hbA5 : bA < w5.heap.size := by omega
          have hd5 := (hb5.cell (p := ⟨bA, oA + k, none⟩) hbAl).trans hd
          obtain ⟨ok5, hok5⟩ : ∃ o, (effW l).isSome = o := ⟨_, rfl⟩
          rw [hok5]
          have HOK5 := Lib.hid hok5
          clear hx5 hf5 hb5 hok5
          by_cases hC1 : 3 < k ∧ ok5 = true
          · skip
            obtain ⟨hk4, rfl⟩ := hC1
            have hk4' : 3 < (k : Int) := by omega
            have hef : effW l = some ⟨whn, vx, vy⟩ := by
              cases e : effW l with
              | none => have := HOK5.out; rw [e] at this; cases this
              | some z => have := HX5.out z e; rw [this]
            have HEF := Lib.hid hef
            clear hef
            rcases hst with ⟨h3, _, _⟩ | ⟨_, init, o, S, cS, E, xi, ev, hle, H⟩
            · omega
            have H0 := H.out
            rw [HDR.out] at H0
            have hln : os.length = init.length + 1 := by rw [H0.eos]; simp
            have hxi : xi.length = init.length * 4 := H0.ini.1
            obtain ⟨gO, rfl, hgO, hgOl, hfO⟩ := own_frozen HI.out.own (by omega)
            obtain ⟨AE, cE, rfl⟩ := own_shape H0.eow
            have hEc := own_cell HI.out.own (i := init.length * 4 + 3) (u := .slice AE o.effs.length cE) (by rw [H0.exv, List.getElem?_append_right (by omega), hxi, Nat.add_sub_cancel_left]; rfl)
            have hx3 := HI.out.box.cell 3 _ rfl
            have hfx := hfO (init.length * 4 + 3)
            generalize hmm : init.length = m at *
            obtain ⟨wb, hwb⟩ : ∃ wb : World, w5.alloc (Obj.cells #[.slice S5 whn.length c5, .int .i64 vx, .int .i64 vy] 53) = wb := ⟨_, rfl⟩
            have hwbz : wb.heap.size = w5.heap.size + 1 := by rw [← hwb]; simp
            have hbb : Below wt.heap.size wt wb := by rw [← hwb]; exact HB5.out.alloc hz5 _
            have hxe : BxI wb w5.heap.size 53 #[.slice S5 whn.length c5, .int .i64 vx, .int .i64 vy] := by rw [← hwb]; exact BxI.new _ _ _
            have c3 := (hbb.cell (p := ⟨w4.heap.size, 3, none⟩) (by show w4.heap.size < wt.heap.size; omega)).trans hx3
            have cE3 := (hbb.cell (p := ⟨gO, m * 4 + 3, none⟩) hgOl).trans hEc
            have e0 := hxe.cell 0 _ rfl
            have e1 := hxe.cell 1 _ rfl
            have e2 := hxe.cell 2 _ rfl
            have hIb := HI.out.up hbb
            have hOb := H0.up hbb
            have hfb : Fac wb (bd wl.heap.size (.slice (some ⟨gO, 0, none⟩) os.length cO) (.slice AE o.effs.length cE)) S5 whn := (HF5.out.move (Moves.up (by rw [← hwb]; exact (Below.refl _ _).alloc (Nat.le_refl _) _))).move (Moves.mono fun g _ h => by
              show g < wt.heap.size
              rcases h with h | h | h
              · omega
              · exact (HI.out.own.lt g h).2
              · exact (H0.eow.lt g h).2)
            have hnE : gO ≠ w4.heap.size := by omega
            have hbE : ∀ g, (Value.slice AE o.effs.length cE).ownBlock = some g → g ≠ w4.heap.size ∧ g ≠ gO ∧ g < wt.heap.size := fun g hg => by
              have h1 := H0.eow.lt g hg
              refine ⟨by omega, fun e => ?_, h1.2⟩
              rcases own_ty_ne H0.eow HI.out.own (by decide) with h2 | h2
              · rw [h2] at hg; cases hg
              · exact h2 (hg.trans (by rw [e]; rfl))
            have hS : ∀ w' : World, (∀ g, g = w4.heap.size ∨ g = gO ∨ g = w5.heap.size → w'.heap[g]? = wb.heap[g]?) → w'.cell? ⟨w4.heap.size, 3, none⟩ = some (.slice (some ⟨gO, 0, none⟩) (m + 1) cO) ∧ w'.cell? ⟨gO, m * 4 + 3, none⟩ = some (.slice AE o.effs.length cE) ∧ w'.cell? ⟨w5.heap.size, 0, none⟩ = some (.slice S5 whn.length c5) ∧ w'.cell? ⟨w5.heap.size, 1, none⟩ = some (.int .i64 vx) ∧ w'.cell? ⟨w5.heap.size, 2, none⟩ = some (.int .i64 vy) := fun w' h =>
              ⟨(World.cell?_of_block (w := wb) (a := ⟨w4.heap.size, 3, none⟩) (h _ (.inl rfl))).trans (by rw [← hln]; exact c3), (World.cell?_of_block (w := wb) (a := ⟨gO, _, none⟩) (h _ (.inr (.inl rfl)))).trans cE3, (World.cell?_of_block (w := wb) (a := ⟨w5.heap.size, 0, none⟩) (h _ (.inr (.inr rfl)))).trans e0, (World.cell?_of_block (w := wb) (a := ⟨w5.heap.size, 1, none⟩) (h _ (.inr (.inr rfl)))).trans e1, (World.cell?_of_block (w := wb) (a := ⟨w5.heap.size, 2, none⟩) (h _ (.inr (.inr rfl)))).trans e2⟩
            have hSa : ∀ g, g = w4.heap.size ∨ g = gO ∨ g = w5.heap.size → (wb.alloc (Obj.cells #[.slice S5 whn.length c5, .int .i64 vx, .int .i64 vy] 53)).heap[g]? = wb.heap[g]? := fun g hg => ((Below.refl wb.heap.size wb).alloc (Nat.le_refl _) _).block g (by rcases hg with rfl | rfl | rfl <;> omega)
            have hSg : ∀ w9 : World, (wb.alloc (Obj.cells #[.slice S5 whn.length c5, .int .i64 vx, .int .i64 vy] 53)).grownBy w9 (Value.slice AE o.effs.length cE).ownBlock → ∀ g, g = w4.heap.size ∨ g = gO ∨ g = w5.heap.size → w9.heap[g]? = wb.heap[g]? := fun w9 hg9 g hg => (hg9.block g (by simp; rcases hg with rfl | rfl | rfl <;> omega) (fun e => by
              have h2 := hbE g e.symm
              rcases hg with h3 | h3 | h3
              · exact h2.1 h3
              · exact h2.2.1 h3
              · omega)).trans (hSa g hg)
            have c3' : wb.cell? ⟨w4.heap.size, 3, none⟩ = some (.slice (some ⟨gO, 0, none⟩) (m + 1) cO) := by rw [← hln]; exact c3
            have HIB := Lib.hid hIb
            have HOB := Lib.hid hOb
            have HFB := Lib.hid hfb
            have HS0 := Lib.hid hS
            have HSA := Lib.hid hSa
            have HSG := Lib.hid hSg
            have HLN := Lib.hid hln
            have HMM := Lib.hid hmm
            have hw1 : IntKind.i64.wrap (m : Int) = m := IntWalk.i64_in _ (by omega)
            have hfOb : wb.frozen? ⟨gO, m * 4 + 3, none⟩ = false := (hbb.frozen (p := ⟨gO, m * 4 + 3, none⟩) hgOl).trans hfx
            have hgOb : gO < wb.heap.size := by omega
            clear hIb hOb hfb hS hSa hSg hln hxi hEc hx3 hfx hfO c3 hmm H H0 hxe hbE hbb
            go_wp2_with fail
            (try rw [hwb])
            clear hwb
            refine wp_region_G 14 (fun w' => w'.cell? ⟨w4.heap.size, 3, none⟩ = some (.slice (some ⟨gO, 0, none⟩) (m + 1) cO) ∧ w'.cell? ⟨gO, m * 4 + 3, none⟩ = some (.slice AE o.effs.length cE) ∧ w'.cell? ⟨w5.heap.size, 0, none⟩ = some (.slice S5 whn.length c5) ∧ w'.cell? ⟨w5.heap.size, 1, none⟩ = some (.int .i64 vx) ∧ w'.cell? ⟨w5.heap.size, 2, none⟩ = some (.int .i64 vy)) (by kernel_rfl) (HS0.out _ (fun g _ => rfl)) ?_
            intro hG0
            refine wpS1 0 hG0 ?_; intro hG1; clear hG0
            refine wpS2 1 hG1 ?_; intro hG2; clear hG1
            refine wpS1 2 hG2 ?_; intro hG3; clear hG2
            refine wpS1 3 hG3 ?_; intro hG4; clear hG3
            refine wpS2 4 hG4 ?_; intro hG5; clear hG4
            refine wpS1 5 hG5 ?_; intro hG6; clear hG5
            refine wpS1 6 hG6 ?_; intro hG7; clear hG6
            refine wpS1 7 hG7 ?_; intro hG8; clear hG7
            refine wpS2 8 hG8 ?_; intro hG9; clear hG8
            refine wpS2 9 hG9 ?_; intro hG10; clear hG9
            refine wpAnyG_ready (rs := [10]) (by kernel_rfl) (by simp) (AllG.cons rfl hG10 (fun K hK => ?_) AllG.nil)
            (go_simp)
            refine hK.out _ _ (Or.inr (HS0.out _ (fun g hg => HSA.out g hg))) (fun hG11 => wpN ?_); clear hK hG10
            refine wpAnyG_ready (rs := [11]) (by kernel_rfl) (by simp) (AllG.cons rfl hG11 (fun K hK => ?_) AllG.nil)
            (refine step_append_src (by rfl) _ _ 45 (by rfl) wl.heap.size 53 infE (.agg #[.slice none 0 0, .int .i64 0, .int .i64 0]) 3 40 qundEf hiE ez0 ez1 ez2 rfl (by decide) (.slice AE o.effs.length cE) o.effs.length ev (by rfl) (by exact (HOB.out.eow.alloc _)) (some ⟨w5.heap.size + 1, 0, none⟩) 1 1 [.slice S5 whn.length c5, .int .i64 vx, .int .i64 vy] (by rfl) (src_of (by have h9 := heap_alloc_new wb (Obj.cells #[.slice S5 whn.length c5, .int .i64 vx, .int .i64 vy] 53); rw [hwbz] at h9; exact h9) rfl (three_one rfl rfl rfl)) (by unfold maxLen; omega) (by omega) (by first | omega | (simp; done) | (simp; omega)) ?_; intro v9 w9 hown9 hgrow9 hat9; obtain ⟨A9, c9, rfl⟩ := own_shape hown9; have hgrow9 : (wb.alloc (Obj.cells #[.slice S5 whn.length c5, .int .i64 vx, .int .i64 vy] 53)).grownBy w9 (Value.slice AE o.effs.length cE).ownBlock := ⟨hgrow9.os, hgrow9.tape, hgrow9.output, hgrow9.size, hgrow9.block⟩; have hh9 := HSG.out _ hgrow9; have cO9 := (World.cell?_of_block (w := wb) (a := ⟨gO, m * 4 + 3, none⟩) (hh9 gO (.inr (.inl rfl)))).trans cE3; have fO9 := (World.frozen?_of_block (w := wb) (a := ⟨gO, m * 4 + 3, none⟩) (hh9 gO (.inr (.inl rfl)))).trans hfOb; have hlO9 : gO < w9.heap.size := Nat.lt_of_lt_of_le hgOb (Nat.le_trans (by simp) hgrow9.size); have hpp := rd_eff (cw := c5) HIB.out HOB.out hTB rfl HEF.out HFB.out hown9 hgrow9 hat9; rw [HMM.out] at hpp; have HP1 := Lib.hid hpp.1; have HP2 := Lib.hid hpp.2; clear hpp hh9)
            refine hK.out _ _ (Or.inr (HS0.out _ (HSG.out _ hgrow9))) (fun hG12 => wpN ?_); clear hK hG11
            refine wpS1 12 hG12 ?_; intro hG13; clear hG12
            refine wpS1 13 hG13 ?_; intro hG14; clear hG13
            refine wpAnyG_ready (rs := [14]) (by kernel_rfl) (by simp) (AllG.cons rfl hG14 (fun K hK => ?_) AllG.nil)
            (go_simp)
            refine hK.out _ _ (Or.inl rfl) (fun hG15 => wpN ?_); clear hK hG14
            refine wpAnyG_done (by kernel_rfl) ?_ _; clear hG15
            go_wp2
            go_roundw
            case rel =>
              first
              | exact ⟨k + 1, _, _, _, by omega, by omega, by rw [List.length_append, List.length_singleton, HMM.out]; have := HLN.out; omega, by go_num, HP1, .inr ⟨by omega, _, _, _, _, _, _, _, by rw [List.length_append, List.length_singleton]; omega, HP2⟩⟩
              | exact ⟨k + 1, _, _, _, by omega, by omega, by rw [List.length_append, List.length_singleton, HMM.out]; have := HLN.out; omega, by go_num, Lib.hid (HP1.out.up ((Below.refl _ _).drew)), .inr ⟨by omega, _, _, _, _, _, _, _, by rw [List.length_append, List.length_singleton]; omega, Lib.hid (HP2.out.up ((Below.refl _ _).drew))⟩⟩
            case measure => simp [intOf]; omega
          cases ok5 with
          | true =>
            have hk33 : k = 3 := by
              by_cases h3 : 3 < k
              · exact absurd ⟨h3, rfl⟩ hC1
              · omega
            have hk3' : ¬ (3 < (k : Int)) := by omega
            have HK33 := Lib.hid hk33
            clear hC1 hst hk33
            · skip
              have k6 := fun wx => rhead_any l wx HSM.out
              have K6 := Lib.hid k6
              clear k6
              go_wp2_with fail
              refine (K6.out _).mono ?_
              rintro e w6 ⟨⟨nm, n6, rfl, hx6, hnm6⟩, hb6⟩
              have hz6 := hb6.size
              simp only [World.size_alloc] at hz6
              have hb56 : Below wt.heap.size wt w6 := (HB5.out.alloc hz5 (Obj.cells #[.slice S5 whn.length c5, .int .i64 vx, .int .i64 vy] 53)).trans (hb6.mono (by simp; omega))
              have HX6 := Lib.hid hx6
              have HB6 := Lib.hid hb56
              obtain ⟨ok6, hok6⟩ : ∃ o, (opW l).isSome = o := ⟨_, rfl⟩
              rw [hok6]
              have HOK6 := Lib.hid hok6
              have hr6 := HRT.out.up hb56
              have HR6 := Lib.hid hr6
              clear hx6 hb6 hok6 hb56 hr6
              have hop : opW l = none := opW_eff (by
                cases e : effW l with
                | none => have := HOK5.out; rw [e] at this; cases this
                | some z => exact isW_of_eff e)
              have HNO := Lib.hid (HNONE.out (by
                have hq : q0 = l :: ls.drop (k + 1) := by rw [HQ0.out, ← HDR.out, HK33.out]
                rw [hq]
                exact opsF_no hop))
              have : ok6 = false := by rw [← HOK6.out, hop]; rfl
              subst this
              clear hop
              have y0 := HR6.out.cell 0 _ rfl
              have y1 := HR6.out.cell 1 _ rfl
              have y2 := HR6.out.cell 2 _ rfl
              have y3 := HR6.out.cell 3 _ rfl
              have yf := HR6.out.fz
              have yl := HR6.out.lt
              go_wp2
              refine bodyPost_ret (v := .tuple #[.agg #[.slice none 0 0, .slice none 0 0, .slice none 0 0, .slice none 0 0], .bool false]) (by simp [results, Tryd.results23, go_sem, ↓IntWalk.iteOmega, *]) rfl (rread_no HNO.out (by have := (HBW.out.trans (HB6.out.mono hbw')); repeat (first | exact Below.refl _ _ | refine below_dN ?_ _ | refine Below.drew ?_ | refine Below.alloc ?_ (by first | omega | (simp; done) | (simp; omega)) _ | refine Below.setCell ?_ (by first | omega | (simp; done) | (simp; omega)) _ | refine below_step (by assumption) (by first | omega | (simp; done) | (simp; omega)) ?_)))
          | false =>
            clear hC1
            have hcl : opW l ≠ none → RdC wl.heap.size wt q0 (l :: ls.drop (k + 1)) os (.slice AO os.length cO) xv := by
              intro hop
              have hw : isW wEff l = false := by
                cases e : isW wEff l with
                | false => rfl
                | true => exact absurd (opW_eff e) hop
              rcases hst with ⟨h3, rfl, rfl⟩ | ⟨h3, init, o, S, cS, E, xi, ev, hle, H⟩
              · refine ⟨OpIs.nil _ _, ?_⟩
                have hq : q0 = l :: ls.drop (k + 1) := by rw [HQ0.out, ← HDR.out]; congr 1; omega
                rw [hq]
                cases e : opsF (l :: ls.drop (k + 1)) <;> simp
              · have h := H.out
                rw [HDR.out] at h
                exact h.close HI.out.own (by omega) hw
            have hbadl : opW l = none → opsF q0 = none := by
              intro hop
              rcases hst with ⟨h3, rfl, rfl⟩ | ⟨h3, init, o, S, cS, E, xi, ev, hle, H⟩
              · have hq : q0 = l :: ls.drop (k + 1) := by rw [HQ0.out, ← HDR.out]; congr 1; omega
                rw [hq]
                exact opsF_no hop
              · have h := H.out
                rw [HDR.out] at h
                rw [h.rel]
                have hef : effW l = none := by
                  cases e : effW l with
                  | none => rfl
                  | some z => have := HOK5.out; rw [e] at this; cases this
                cases e : isW wEff l with
                | true => rw [contW_bad e hef]; rfl
                | false => rw [contW_op e, opsF_no hop]; rfl
            have HCL := Lib.hid hcl
            have HBAD := Lib.hid hbadl
            clear hcl hbadl hst
            have k6 := fun wx => rhead_any l wx HSM.out
            have K6 := Lib.hid k6
            clear k6
            go_wp2_with fail
            refine (K6.out _).mono ?_
            rintro e w6 ⟨⟨nm, n6, rfl, hx6, hnm6⟩, hb6⟩
            have hz6 := hb6.size
            simp only [World.size_alloc] at hz6
            have hb56 : Below wt.heap.size wt w6 := (HB5.out.alloc hz5 (Obj.cells #[.slice S5 whn.length c5, .int .i64 vx, .int .i64 vy] 53)).trans (hb6.mono (by simp; omega))
            have HX6 := Lib.hid hx6
            have HB6 := Lib.hid hb56
            obtain ⟨ok6, hok6⟩ : ∃ o, (opW l).isSome = o := ⟨_, rfl⟩
            rw [hok6]
            have HOK6 := Lib.hid hok6
            have hr6 := HRT.out.up hb56
            have HR6 := Lib.hid hr6
            clear hx6 hb6 hok6 hb56 hr6
            cases ok6 with
            | false =>
              have HNO := Lib.hid (HNONE.out (HBAD.out (by cases e : opW l with | none => rfl | some z => have := HOK6.out; rw [e] at this; cases this)))
              have y0 := HR6.out.cell 0 _ rfl
              have y1 := HR6.out.cell 1 _ rfl
              have y2 := HR6.out.cell 2 _ rfl
              have y3 := HR6.out.cell 3 _ rfl
              have yf := HR6.out.fz
              have yl := HR6.out.lt
              go_wp2
              refine bodyPost_ret (v := .tuple #[.agg #[.slice none 0 0, .slice none 0 0, .slice none 0 0, .slice none 0 0], .bool false]) (by simp [results, Tryd.results23, go_sem, ↓IntWalk.iteOmega, *]) rfl (rread_no HNO.out (by have := (HBW.out.trans (HB6.out.mono hbw')); repeat (first | exact Below.refl _ _ | refine below_dN ?_ _ | refine Below.drew ?_ | refine Below.alloc ?_ (by first | omega | (simp; done) | (simp; omega)) _ | refine Below.setCell ?_ (by first | omega | (simp; done) | (simp; omega)) _ | refine below_step (by assumption) (by first | omega | (simp; done) | (simp; omega)) ?_)))
            | true =>
              obtain ⟨cc, hcc⟩ : ∃ cc, opW l = some cc := by
                cases e : opW l with
                | none => have := HOK6.out; rw [e] at this; cases this
                | some z => exact ⟨z, rfl⟩
              have hc6 := HX6.out cc hcc
              subst hc6
              have hC := HCL.out (by rw [hcc]; simp)
              by_cases hk1 : k + 1 = n
              · have HNO := Lib.hid (HNONE.out (by
                  rw [hC.rel, List.drop_of_length_le (by rw [HN.out]; omega), opsF_one]; rfl))
                clear hC hcc
                have y0 := HR6.out.cell 0 _ rfl
                have y1 := HR6.out.cell 1 _ rfl
                have y2 := HR6.out.cell 2 _ rfl
                have y3 := HR6.out.cell 3 _ rfl
                have yf := HR6.out.fz
                have yl := HR6.out.lt
                have hk1' : (k : Int) + 1 = n := by omega
                go_wp2
                refine bodyPost_ret (v := .tuple #[.agg #[.slice none 0 0, .slice none 0 0, .slice none 0 0, .slice none 0 0], .bool false]) (by simp [results, Tryd.results23, go_sem, ↓IntWalk.iteOmega, *]) rfl (rread_no HNO.out (by have := (HBW.out.trans (HB6.out.mono hbw')); repeat (first | exact Below.refl _ _ | refine below_dN ?_ _ | refine Below.drew ?_ | refine Below.alloc ?_ (by first | omega | (simp; done) | (simp; omega)) _ | refine Below.setCell ?_ (by first | omega | (simp; done) | (simp; omega)) _ | refine below_step (by assumption) (by first | omega | (simp; done) | (simp; omega)) ?_)))
              · have hk1' : ¬ ((k : Int) + 1 = n) := by omega
                obtain ⟨b', o', e', _, _, hdp⟩ := HLS.out.at_ (k := k + 1) (by rw [HN.out]; omega)
                injection e' with e'
                injection e' with e1 e2 _
                subst e1 e2
                have hsmp := HLS.out.small (k := k + 1) (by rw [HN.out]; omega)
                have hdrp := txt_dropc (l := ls) (k := k + 1) (by rw [HN.out]; omega)
                generalize hlp : txt ls (k + 1) = pl at *
                have hbA6 : bA < w6.heap.size := by omega
                have hdp6 := (HB6.out.cell (p := ⟨bA, oA + (k + 1), none⟩) hbAl).trans hdp
                have k7 := fun wx => rcond_any pl wPre wx hsmp
                have K7 := Lib.hid k7
                have HC := Lib.hid hC
                have HCC := Lib.hid hcc
                have HDRP := Lib.hid hdrp
                clear k7 hC hcc hlp hdp hsmp hdrp
                go_wp2_with fail
                refine (K7.out _).mono ?_
                rintro e w7 ⟨⟨S7, c7, xs7, rfl, ha7, hx7, hf7⟩, hb7⟩
                have hz7 := hb7.size
                simp only [World.size_alloc] at hz7 hf7
                have hb67 : Below wt.heap.size wt w7 := (HB6.out.alloc (by omega) (Obj.cells #[.string (bs nm), .int .i64 n6, .slice none 0 0, .slice none 0 0] 47)).trans (hb7.mono (by simp; omega))
                have h17 := (BxI.new w6 47 #[.string (bs nm), .int .i64 n6, .slice none 0 0, .slice none 0 0]).up hb7
                have g0 := h17.cell 0 _ rfl
                have g1 := h17.cell 1 _ rfl
                have g2 := h17.cell 2 _ rfl
                have g3 := h17.cell 3 _ rfl
                have gf := h17.fz
                have gl := h17.lt
                have hr7 := HRT.out.up hb67
                have HR7 := Lib.hid hr7
                have HB7 := Lib.hid hb67
                have HF7 := Lib.hid hf7
                obtain ⟨o7, ho7⟩ : ∃ o, (lineW wPre pl).bind facsW = o := ⟨_, rfl⟩
                rw [ho7] at hx7 ⊢
                cases o7 with
                | none =>
                  have HNO := Lib.hid (HNONE.out (by rw [HC.out.rel, HDRP.out, opsF_pre ho7]; rfl))
                  clear hx7 ho7 hf7 hb7 hb67 h17 hr7 ha7
                  simp only [Option.isSome_none]
                  have y0 := HR7.out.cell 0 _ rfl
                  have y1 := HR7.out.cell 1 _ rfl
                  have y2 := HR7.out.cell 2 _ rfl
                  have y3 := HR7.out.cell 3 _ rfl
                  have yf := HR7.out.fz
                  have yl := HR7.out.lt
                  go_wp2
                  refine bodyPost_ret (v := .tuple #[.agg #[.slice none 0 0, .slice none 0 0, .slice none 0 0, .slice none 0 0], .bool false]) (by simp [results, Tryd.results23, go_sem, ↓IntWalk.iteOmega, *]) rfl (rread_no HNO.out (by have := (HBW.out.trans (HB7.out.mono hbw')); repeat (first | exact Below.refl _ _ | refine below_dN ?_ _ | refine Below.drew ?_ | refine Below.alloc ?_ (by first | omega | (simp; done) | (simp; omega)) _ | refine Below.setCell ?_ (by first | omega | (simp; done) | (simp; omega)) _ | refine below_step (by assumption) (by first | omega | (simp; done) | (simp; omega)) ?_)))
                | some f7 =>
                  obtain rfl := hx7 f7 rfl
                  have hbx : Below wt.heap.size wt (w7.setCell ⟨w6.heap.size, 2, none⟩ (.slice S7 xs7.length c7)) := HB7.out.setCell (p := ⟨w6.heap.size, 2, none⟩) (by show wt.heap.size ≤ w6.heap.size; omega) _
                  have hIx := HI.out.up hbx
                  have hCx := HC.out.up hbx
                  have hfx : Fac (w7.setCell ⟨w6.heap.size, 2, none⟩ (.slice S7 xs7.length c7)) (bc wl.heap.size (.slice AO os.length cO)) S7 xs7 := (HF7.out.move (Moves.set (p := ⟨w6.heap.size, 2, none⟩) (.slice S7 xs7.length c7) (show w6.heap.size < w6.heap.size + 1 by omega))).move (Moves.mono fun g _ h => by
                    show g < w6.heap.size + 1
                    rcases h with h | h
                    · omega
                    · have := (HI.out.own.lt g h).2; omega)
                  have HIX := Lib.hid hIx
                  have HCX := Lib.hid hCx
                  have HFX := Lib.hid hfx
                  have hx3 := hIx.box.cell 3 _ rfl
                  have hx3' : w7.cell? ⟨w4.heap.size, 3, none⟩ = some (.slice AO os.length cO) := by have h := hIx.box.cell 3 (.slice AO os.length cO) rfl; rwa [World.cell?_setCell_other _ _ _ _ (by first | (simp; done) | (simp; omega))] at h
                  have HREL := Lib.hid (show opsF (l :: ls.drop (k + 1)) = contW ⟨bs nm, n6, xs7, []⟩ (ls.drop (k + 1 + 1)) by rw [HDRP.out, opsF_open HCC.out ho7]; rfl)
                  have WZ := Lib.hid (show ((w7.setCell ⟨w6.heap.size, 2, none⟩ (.slice S7 xs7.length c7))).heap.size = w7.heap.size by simp [World.setCell])
                  clear hx7 ho7 hf7 hb7 hb67 h17 hr7 ha7 hbx hIx hCx hfx hx3
                  simp only [Option.isSome_some]
                  go_wp2_with (at_builtin; refine wpList_push rfl _ _ 25 rfl wl.heap.size 47 infO (.agg #[.string ByteArray.empty, .int .i64 0, .slice none 0 0, .slice none 0 0]) 4 72 qundOp hiO oz0 oz1 oz2 rfl (by decide) (by decide) _ os.length xv rfl (HIX.out.own.alloc _) w7.heap.size 47 [.string (bs nm), .int .i64 n6, .slice S7 xs7.length c7, .slice none 0 0] rfl rfl (by have h9 := heap_alloc_new (w7.setCell ⟨w6.heap.size, 2, none⟩ (.slice S7 xs7.length c7)) (Obj.cells #[.string (bs nm), .int .i64 n6, .slice S7 xs7.length c7, .slice none 0 0] 47); rw [WZ.out] at h9; exact h9) (four_one rfl rfl rfl rfl) (by omega) (by first | omega | (simp; omega)) (B := 0) (Below.refl 0 _) (by omega) ?_; intro v' w9 hown' hgrow hat _; obtain ⟨A9, c9, rfl⟩ := own_shape hown'; have hb9 := (HIX.out.box.up ((Below.refl _ _).alloc (Nat.le_refl _) (Obj.cells #[.string (bs nm), .int .i64 n6, .slice S7 xs7.length c7, .slice none 0 0] 47))).grown hgrow (fun e => by have := (HI.out.own.lt _ e).1; omega); have xb3 := hb9.cell 3 _ rfl; have xf9 := hb9.fz 3; have xl9 := hb9.lt; have hpp := rd_push (c' := c7) HIX.out HCX.out hTB rfl (by rw [bs_size]; exact hnm6) HFX.out HREL.out hown' hgrow hat; have HP1 := Lib.hid hpp.1; have HP2 := Lib.hid hpp.2; clear hpp hown' hgrow hat hb9)
                  go_roundw
                  case rel => exact ⟨k + 1 + 1, _, _, _, by omega, by omega, by rw [List.length_append, List.length_singleton]; omega, by go_num, HP1, .inr ⟨by omega, _, _, _, _, _, _, _, Nat.zero_le _, HP2⟩⟩
                  case measure => simp [intOf]; omega
        · obtain rfl : k = n := by omega
          have hfin : OpIs wt (bc wl.heap.size (.slice AO os.length cO)) xv os ∧ opsF q0 = some os := by
            rcases hst with ⟨h3, rfl, rfl⟩ | ⟨h3, init, o, S, cS, E, xi, ev, hle, H⟩
            · refine ⟨OpIs.nil _ _, ?_⟩
              have : q0 = [] := by rw [HQ0.out]; exact List.drop_of_length_le (by rw [HN.out]; omega)
              rw [this]; rfl
            · have h := H.out
              rw [List.drop_of_length_le (by rw [HN.out]; exact Nat.le_refl _)] at h
              exact h.stop HI.out.own (by omega)
          obtain ⟨hop, hqs⟩ := hfin
          have HTS := Lib.hid (show taskW s = some ⟨xs2, xs3, xs4, os⟩ by rw [HTL.out, HLL.out, hqs]; rfl)
          have hm1 : Moves wl wt (fun g => g < w.heap.size + 1 ∨ g = w4.heap.size) (fun g => g < w.heap.size + 1) := ⟨hzt, fun g hg hn => HI.out.kb.block g hg (fun e => hn (.inr e)), fun g _ h => .inl h⟩
          have hm2 : ∀ v0 v1 v2 v3, Moves wt ((((wt.setCell ⟨w.heap.size, 0, none⟩ v0).setCell ⟨w.heap.size, 1, none⟩ v1).setCell ⟨w.heap.size, 2, none⟩ v2).setCell ⟨w.heap.size, 3, none⟩ v3) (fun g => g < w.heap.size + 1) (fun g => g < w.heap.size) := fun v0 v1 v2 v3 =>
            ((((Moves.set (p := ⟨w.heap.size, 0, none⟩) _ (Nat.lt_succ_self _)).trans (Moves.set (p := ⟨w.heap.size, 1, none⟩) _ (Nat.lt_succ_self _))).trans (Moves.set (p := ⟨w.heap.size, 2, none⟩) _ (Nat.lt_succ_self _))).trans (Moves.set (p := ⟨w.heap.size, 3, none⟩) _ (Nat.lt_succ_self _))).trans (Moves.mono fun g _ h => Nat.lt_succ_of_lt h)
          have fin : ∀ v0 v1 v2 v3 (w'' : World), Moves ((((wt.setCell ⟨w.heap.size, 0, none⟩ v0).setCell ⟨w.heap.size, 1, none⟩ v1).setCell ⟨w.heap.size, 2, none⟩ v2).setCell ⟨w.heap.size, 3, none⟩ v3) w'' (fun g => g < w.heap.size) (fun _ => False) → TaskAt w'' w''.heap.size ⟨xs2, xs3, xs4, os⟩ ⟨A2, A3, A4, AO, c2, c3, c4, cO⟩ := by
            intro v0 v1 v2 v3 w'' hm3
            have ho := own_set (p := ⟨w.heap.size, 3, none⟩) (u := v3) (own_set (p := ⟨w.heap.size, 2, none⟩) (u := v2) (own_set (p := ⟨w.heap.size, 1, none⟩) (u := v1) (own_set (p := ⟨w.heap.size, 0, none⟩) (u := v0) HI.out.own (by show w.heap.size < wl.heap.size; omega)) (by show w.heap.size < wl.heap.size; omega)) (by show w.heap.size < wl.heap.size; omega)) (by show w.heap.size < wl.heap.size; omega)
            have ho := own_mv ho hm3 (fun g hg h => by have h1 := (ho.lt g hg).1; have h2 : g < w.heap.size := h; omega)
            have h4 := ((hop.move (Moves.mono (bad' := fun g => g < w.heap.size + 1) fun g _ h => .inl (by have h1 : g < w.heap.size + 1 := h; omega))).move (hm2 v0 v1 v2 v3)).move hm3
            obtain ⟨A', c', e1, e2, e3⟩ := h4.ops ho (by omega)
            have e4 : A' = AO := by injection e1 with h1 _ h2; exact h1.symm
            rw [e4] at e3
            exact ⟨(((HI2L.out.move hm1).move (hm2 v0 v1 v2 v3)).move hm3).at_, (((HI3L.out.move hm1).move (hm2 v0 v1 v2 v3)).move hm3).at_, (((HI4L.out.move hm1).move (hm2 v0 v1 v2 v3)).move hm3).at_, e3⟩
          have FIN := Lib.hid fin
          have x0 := HI.out.box.cell 0 _ rfl
          have x1 := HI.out.box.cell 1 _ rfl
          have x2 := HI.out.box.cell 2 _ rfl
          have x3 := HI.out.box.cell 3 _ rfl
          have y0 := HRT.out.cell 0 _ rfl
          have y1 := HRT.out.cell 1 _ rfl
          have y2 := HRT.out.cell 2 _ rfl
          have y3 := HRT.out.cell 3 _ rfl
          have yf := HRT.out.fz
          have yl := HRT.out.lt
          clear hst hop hqs hm1 hm2 fin
          go_wp2
          refine bodyPost_ret (v := .tuple #[.agg #[.slice A2 xs2.length c2, .slice A3 xs3.length c3, .slice A4 xs4.length c4, .slice AO os.length cO], .bool true]) (by simp [results, Tryd.results23, go_sem, ↓IntWalk.iteOmega, *]) rfl ⟨⟨⟨A2, A3, A4, AO, c2, c3, c4, cO⟩, by rw [HTS.out]; rfl, fun w'' hm => by rw [HTS.out]; exact FIN.out _ _ _ _ w'' hm⟩, (((HBW.out.setCell (p := ⟨w.heap.size, 0, none⟩) (Nat.le_refl _) _).setCell (p := ⟨w.heap.size, 1, none⟩) (Nat.le_refl _) _).setCell (p := ⟨w.heap.size, 2, none⟩) (Nat.le_refl _) _).setCell (p := ⟨w.heap.size, 3, none⟩) (Nat.le_refl _) _⟩
end Go.Proofs.YtbcbmpnikgeoeaaDoor

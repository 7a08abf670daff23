/- succgen: the decision tree in memory; collect, walked. -/
import Derived.Test.YtpobnjbpglaohaaGreatWgA
import Derived.Test.YtpobnjbpglaohaaGreatWrA
namespace Go.Proofs.YtpobnjbpglaohaaGreat
set_option linter.unusedSimpArgs false
set_option linter.unusedVariables false
open Go Go.RowKit
set_option linter.unusedVariables false

/-- A tree in memory, outside bad blocks, and what it gives for a state. -/
inductive NodeIs (w : World) (bad : Nat → Prop) (vars : List Int) : Value → (List Int → List Int) → Prop
  | nil : NodeIs w bad vars (.pointer none) (fun _ => [])
  | leaf (X : Nat) (A : Option Addr) (c : Nat) (l : List Int) (hX : X < w.heap.size) (hX2 : ¬ bad X) (hb : BxI w X 130 #[.slice A l.length c, .bool true, .int .i64 0, .slice none 0 0, .pointer none]) (h0 : 0 < l.length) (hl : IntK w bad A l) : NodeIs w bad vars (.pointer (some ⟨X, 0, none⟩)) (fun _ => l)
  | node (X VB v c : Nat) (P : Nat → Value) (Cs : Nat → List Int → List Int) (rp : Value) (Cr : List Int → List Int) (hX : X < w.heap.size) (hX2 : ¬ bad X) (hb : BxI w X 130 #[.slice none 0 0, .bool false, .int .i64 v, .slice (some ⟨VB, 0, none⟩) (nth vars v).toNat c, rp]) (hv : v < vars.length) (hV : VB < w.heap.size) (hV2 : ¬ bad VB)
      (hc : ∀ x, x < (nth vars v).toNat → w.cell? ⟨VB, x, none⟩ = some (P x)) (hs : ∀ x, x < (nth vars v).toNat → NodeIs w bad vars (P x) (Cs x)) (hr : NodeIs w bad vars rp Cr) : NodeIs w bad vars (.pointer (some ⟨X, 0, none⟩)) (fun s => Cs (nth s v).toNat s ++ Cr s)
theorem NodeIs.move {w w' : World} {bad bad' : Nat → Prop} {vars : List Int} {np : Value} {C : List Int → List Int} (h : NodeIs w bad vars np C) (m : Moves w w' bad bad') : NodeIs w' bad' vars np C := by
  induction h with
  | nil => exact .nil
  | leaf X A c l hX hX2 hb h0 hl => exact .leaf X A c l (Nat.lt_of_lt_of_le hX m.size) (fun h => hX2 (m.bad X hX h)) ((m.block X hX hX2).trans hb) h0 (hl.move m)
  | node X VB v c P Cs rp Cr hX hX2 hb hv hV hV2 hc hs hr ih1 ih2 => exact .node X VB v c P Cs rp Cr (Nat.lt_of_lt_of_le hX m.size) (fun h => hX2 (m.bad X hX h)) ((m.block X hX hX2).trans hb) hv (Nat.lt_of_lt_of_le hV m.size) (fun h => hV2 (m.bad VB hV h)) (fun x hx => (m.cell (p := ⟨VB, x, none⟩) hV hV2).trans (hc x hx)) ih1 ih2
def blC (bs : List Bool) : List Value := bs.map .bool
theorem blC_set (bs : List Bool) (i : Nat) (b : Bool) : (blC bs).set i (.bool b) = blC (bs.set i b) := by unfold blC; rw [List.map_set]
/-- What collect leaves. -/
def ColR (base : Nat) (vars : List Int) (Kl : Nat) (l : List Int) (e : Ending) (w' : World) : Prop := ∃ A' c' bs', e = .returned (.slice A' l.length c') ∧ w'.ownsRow base 3 1 (.slice A' l.length c') l.length (ic l) ∧ w'.ownsRow base 4 1 (.slice (some ⟨Kl, 0, none⟩) vars.length vars.length) vars.length (blC bs')

set_option maxRecDepth 20000 in
set_option maxHeartbeats 8000000 in
theorem collect_any {w0 : World} {hi : Nat} {vars : List Int} {np : Value} {C : List Int → List Int} (h : NodeIs w0 (fun b => hi ≤ b) vars np C) (hlv : vars.length ≤ 64) : ∀ (w : World) (base : Nat) (out : List Int) (OA : Option Addr) (OC : Nat) (s : List Int) (SA : Option Addr) (Sc Kl : Nat) (bs : List Bool),
    Below hi w0 w → hi ≤ base → base ≤ w.heap.size → IntsAt w base SA s → StP vars s → w.ownsRow base 3 1 (.slice OA out.length OC) out.length (ic out) → out.length + (C s).length ≤ 100000 →
    w.ownsRow base 4 1 (.slice (some ⟨Kl, 0, none⟩) vars.length vars.length) vars.length (blC bs) →
    Calls Tryz.prog 70 #[np, .slice OA out.length OC, .slice SA vars.length Sc, .slice (some ⟨Kl, 0, none⟩) vars.length vars.length] w fun e w' => ColR base vars Kl (out ++ C s) e w' ∧ Below base w w' := by
  obtain ⟨ii, hi1, iq0, iq1, iq2⟩ := info_parts infoI
  induction h with
  | nil =>
    intro w base out OA OC s SA Sc Kl bs hB hhb hbs hs hst ho hlen hk
    rw [List.append_nil]
    go_enter Tryz.func70, Tryz.ntmps70
    go_wp2
    refine bodyPost_ret (v := .slice OA out.length OC) (by simp [results, Tryz.results70, go_sem, ↓IntWalk.iteOmega, *]) rfl ⟨⟨OA, OC, bs, rfl, ho, hk⟩, by repeat (first | exact Below.refl _ _ | refine below_dN ?_ _ | refine Below.drew ?_ | refine Below.alloc ?_ (by first | omega | (simp; done) | (simp; omega)) _ | refine Below.setCell ?_ (by first | omega | (simp; done) | (simp; omega)) _ | refine below_step (by assumption) (by first | omega | (simp; done) | (simp; omega)) ?_)⟩
  | leaf X A c l hX hX2 hb h0 hl =>
    have hX : X < hi := by omega
    intro w base out OA OC s SA Sc Kl bs hB hhb hbs hs hst ho hlen hk
    have HO := Lib.hid ho
    have HK := Lib.hid hk
    have HX := Lib.hid (hb.low hB hX)
    have HL := Lib.hid (hl.move (w' := w) (bad' := fun _ => False) ⟨by have := hB.size; omega, fun b h1 h2 => hB.block b (by omega), fun _ _ h => h.elim⟩).at_
    have c0 := HX.out.cell 0 _ rfl
    have c1 := HX.out.cell 1 _ rfl
    have hxl := HX.out.lt
    have hlen : out.length + l.length ≤ 100000 := hlen
    clear hb hl hs hst ho hk
    go_enter Tryz.func70, Tryz.ntmps70
    go_wp2_with (at_builtin; refine wpList_append_src (by rfl) _ _ 22 (by rfl) base 3 ii (.int .i64 0) 1 8 undI hi1 iq0 iq1 iq2 rfl (by decide) (.slice OA out.length OC) out.length (ic out) (by rfl) (by exact HO.out) A l.length c (ic l) (by rfl) (ints_srcAt HL.out (fun e => by obtain ⟨b, off, e2, _⟩ := HL.out.2 h0; rw [e] at e2; cases e2)) (by unfold maxLen; omega) (by omega) (by omega) ?_; intro v9 w9 hown9 hgrow9 hat9; obtain ⟨A9, c9, rfl⟩ := own_shape hown9; have HO9 := Lib.hid hown9; have HG9 := Lib.hid hgrow9; clear hown9 hgrow9 hat9)
    refine bodyPost_ret (v := .slice A9 (out.length + l.length) c9) (by simp [results, Tryz.results70, go_sem, ↓IntWalk.iteOmega, *]) rfl ⟨⟨A9, c9, bs, by rw [List.length_append], ?_, ?_⟩, ?_⟩
    · have := HO9.out
      unfold ic at *
      rw [List.length_append, List.map_append]
      exact this
    · exact own_kb1 HK.out (kb_grown HG9.out) (fun b hb e => by
        obtain ⟨cur, hc⟩ := own_blk HO.out e
        obtain ⟨cur2, hc2⟩ := own_blk HK.out hb
        rw [hc] at hc2; simp at hc2)
    · exact below_then (Below.refl _ _) (kb_grown HG9.out) (fun b hb e => by have := (HO.out.lt b e).1; omega) hbs
  | node X VB v c P Cs rp Cr hX hX2 hb hv hV hV2 hc hs hr ih1 ih2 =>
    have hX : X < hi := by omega
    have hV : VB < hi := by omega
    intro w base out OA OC s SA Sc Kl bs hB hhb hbs hst0 hst ho hlen hk
    have HO := Lib.hid ho
    have HK := Lib.hid hk
    have HX := Lib.hid (hb.low hB hX)
    have hxl := HX.out.lt
    have hsv := hst.2 v (by rw [hst.1]; exact hv)
    have hlt : (nth s v).toNat < (nth vars v).toNat := by omega
    have HC := Lib.hid ((hB.cell (p := ⟨VB, (nth s v).toNat, none⟩) hV).trans (hc _ hlt))
    have hlen' : out.length + (Cs (nth s v).toNat s).length + (Cr s).length ≤ 100000 := by rw [List.length_append] at hlen; omega
    have I1 := Lib.hid (ih1 _ hlt)
    have I2 := Lib.hid ih2
    have HSI := Lib.hid hst0
    have HST := Lib.hid hst
    have HB := Lib.hid hB
    obtain ⟨x, hx⟩ : ∃ x : Nat, nth s v = (x : Int) := ⟨(nth s v).toNat, by omega⟩
    have hxt : (nth s v).toNat = x := by omega
    rw [hxt] at hlt HC hlen' I1
    have HXX := Lib.hid hx
    have HXT := Lib.hid hxt
    obtain ⟨k, hkk⟩ : ∃ k, k = (nth vars v).toNat := ⟨_, rfl⟩
    have HKK := Lib.hid hkk
    rw [← hkk] at hlt HX
    obtain ⟨sb, so, rfl, hsb, hsc⟩ := hst0.2 (by rw [hst.1]; omega)
    have i0 := hsc v (by rw [hst.1]; exact hv)
    rw [hx] at i0
    obtain ⟨pv, hpv⟩ : ∃ pv, pv = P x := ⟨_, rfl⟩
    rw [← hpv] at HC I1
    have c2 := HX.out.cell 2 _ rfl
    have c1 := HX.out.cell 1 _ rfl
    dsimp only
    rw [hxt]
    obtain ⟨l7, hl7⟩ : ∃ l7, l7 = out ++ Cs x s := ⟨_, rfl⟩
    obtain ⟨l8, hl8⟩ : ∃ l8, l8 = l7 ++ Cr s := ⟨_, rfl⟩
    rw [show out ++ (Cs x s ++ Cr s) = l8 by rw [hl8, hl7, List.append_assoc]]
    have HL7 := Lib.hid hl7
    have HL8 := Lib.hid hl8
    have hl7n : l7.length = out.length + (Cs x s).length := by rw [hl7, List.length_append]
    have HN7 := Lib.hid hl7n
    have hKI := Lib.hid (own_blk HK.out (g := Kl) rfl)
    have hKb := HK.out.lt Kl rfl
    have HOK := Lib.hid (show ∀ g, (Value.slice OA out.length OC).ownBlock = some g → ¬ g = Kl from fun g hg e => by
      obtain ⟨cur, hc⟩ := own_blk HO.out hg
      obtain ⟨cur2, hc2⟩ := hKI.out
      rw [e, hc2] at hc; simp at hc)
    clear hb hc hs hr ih1 ih2 hst ho hk hkk hlen hst0 hx hxt hpv hB hsv hl7 hl8 hl7n
    go_enter Tryz.func70, Tryz.ntmps70
    go_wp2_with (refine wpList_store1 (by rfl) 4 _ _ (by rfl) Kl v (.bool true) (by rfl) (by rfl) (by rfl) (there_own HK.out (by omega)) (by kernel_rfl) rfl ?_; intro w5 HW5)
    have HK5 := Lib.hid (show w5.ownsRow base 4 1 (.slice (some ⟨Kl, 0, none⟩) vars.length vars.length) vars.length (blC (bs.set v true)) by rw [HW5.out, ← blC_set]; exact own_setAt2 HK.out _)
    have KK := kb_set (w := w) (p := ⟨Kl, v, none⟩) (.bool true)
    rw [← HW5.out] at KK
    have HO5 := Lib.hid (own_kb1 HO.out KK HOK.out)
    have HB5 := Lib.hid (below_then (Below.refl base w) KK (fun b hb e => by have e : b = Kl := e; omega) hbs)
    have hz5 := HB5.out.size
    have HX5 := Lib.hid (HX.out.low HB5.out (by omega))
    have HS5 := Lib.hid (show ∀ w' : World, Below base w5 w' → w'.cell? ⟨X, 4, none⟩ = some rp ∧ w'.cell? ⟨X, 3, none⟩ = some (.slice (some ⟨VB, 0, none⟩) k c) ∧ w'.cell? ⟨X, 2, none⟩ = some (.int .i64 v) ∧ w'.cell? ⟨sb, so + v, none⟩ = some (.int .i64 x) ∧ w'.cell? ⟨VB, x, none⟩ = some pv from fun w' hb =>
      ⟨(HX5.out.low hb (by omega)).cell 4 _ rfl, (HX5.out.low hb (by omega)).cell 3 _ rfl, (HX5.out.low hb (by omega)).cell 2 _ rfl, ((HB5.out.trans hb).cell (p := ⟨sb, so + v, none⟩) hsb).trans i0, ((HB5.out.trans hb).cell (p := ⟨VB, x, none⟩) (by show VB < base; omega)).trans HC.out⟩)
    have HSL := Lib.hid (show s.length = vars.length from HST.out.1)
    clear KK c1 c2 i0
    have hsz5 : base ≤ w5.heap.size := by omega
    have I1' := Lib.hid (I1.out w5.drew base out OA OC s (some ⟨sb, so, none⟩) Sc Kl (bs.set v true) ((HB.out.trans (HB5.out.mono hhb)).drew) hhb hsz5 (HSI.out.keep (fun q hq => HB5.out.cell hq) (Nat.le_refl _)) HST.out HO5.out (by omega) HK5.out)
    rw [← HL7.out] at I1'
    refine wp_region_G 23 (fun w' => w'.cell? ⟨X, 4, none⟩ = some rp ∧ w'.cell? ⟨X, 3, none⟩ = some (.slice (some ⟨VB, 0, none⟩) k c) ∧ w'.cell? ⟨X, 2, none⟩ = some (.int .i64 v) ∧ w'.cell? ⟨sb, so + v, none⟩ = some (.int .i64 x) ∧ w'.cell? ⟨VB, x, none⟩ = some pv) (by kernel_rfl) (HS5.out _ (Below.refl _ _).drew) ?_
    intro hG0
    refine wpS1 0 hG0 ?_; intro hG1; clear hG0
    refine wpS1 1 hG1 ?_; intro hG2; clear hG1
    refine wpS1 2 hG2 ?_; intro hG3; clear hG2
    refine wpS2 3 hG3 ?_; intro hG4; clear hG3
    refine wpS1 4 hG4 ?_; intro hG5; clear hG4
    refine wpS1 5 hG5 ?_; intro hG6; clear hG5
    refine wpS1 6 hG6 ?_; intro hG7; clear hG6
    refine wpS2 7 hG7 ?_; intro hG8; clear hG7
    refine wpS1 8 hG8 ?_; intro hG9; clear hG8
    refine wpS1 9 hG9 ?_; intro hG10; clear hG9
    refine wpS1 10 hG10 ?_; intro hG11; clear hG10
    refine wpS1 11 hG11 ?_; intro hG12; clear hG11
    refine wpS2 12 hG12 ?_; intro hG13; clear hG12
    refine wpS1 13 hG13 ?_; intro hG14; clear hG13
    refine wpS2 14 hG14 ?_; intro hG15; clear hG14
    refine wpS1 15 hG15 ?_; intro hG16; clear hG15
    refine wpS2 16 hG16 ?_; intro hG17; clear hG16
    refine wpS1 17 hG17 ?_; intro hG18; clear hG17
    refine wpS1 18 hG18 ?_; intro hG19; clear hG18
    refine wpS1 19 hG19 ?_; intro hG20; clear hG19
    refine wpS1 21 hG20 ?_; intro hG21; clear hG20
    refine wpS1 22 hG21 ?_; intro hG22; clear hG21
    refine wpAnyG_ready (rs := [20]) (by kernel_rfl) (by simp) (AllG.cons rfl hG22 (fun K hK => ?_) AllG.nil)
    (go_simp; go_at_call 70; refine I1'.out.mono ?_; rintro e w7 ⟨⟨A7, c7, bs7, rfl, hown7, hk7⟩, hb7⟩; have HB7 := Lib.hid (show Below base w5 w7 from ⟨hb7.os, hb7.tape, hb7.output, hb7.size, hb7.block⟩); have HO7 := Lib.hid hown7; have HK7 := Lib.hid hk7; clear hown7 hk7 hb7)
    refine hK.out _ _ (Or.inr (HS5.out _ HB7.out)) (fun hG23 => wpN ?_); clear hK hG22
    refine wpAnyG_ready (rs := [23]) (by kernel_rfl) (by simp) (AllG.cons rfl hG23 (fun K hK => ?_) AllG.nil)
    (go_simp; go_at_call 70; refine (I2.out w7 base l7 A7 c7 s (some ⟨sb, so, none⟩) Sc Kl bs7 (HB.out.trans ((HB5.out.trans HB7.out).mono hhb)) hhb (Nat.le_trans hsz5 HB7.out.size) (HSI.out.keep (fun q hq => (HB5.out.trans HB7.out).cell hq) (Nat.le_refl _)) HST.out HO7.out (by rw [HN7.out]; omega) HK7.out).mono ?_; rintro e w8 ⟨⟨A8, c8, bs8, rfl, hown8, hk8⟩, hb8⟩; rw [← HL8.out] at hown8; rw [← HL8.out]; have HO8 := Lib.hid hown8; have HK8 := Lib.hid hk8; have HB8 := Lib.hid hb8; clear hown8 hk8 hb8)
    refine hK.out _ _ (Or.inl rfl) (fun hG24 => wpN ?_); clear hK hG23
    refine wpS1 24 hG24 ?_; intro hG25; clear hG24
    refine wpAnyG_done (by kernel_rfl) ?_ _; clear hG25
    go_wp2
    refine bodyPost_ret (v := .slice A8 l8.length c8) (by simp [results, Tryz.results70, go_sem, ↓IntWalk.iteOmega, *]) rfl ⟨⟨A8, c8, bs8, rfl, HO8.out, HK8.out⟩, HB5.out.trans (HB7.out.trans HB8.out)⟩
end Go.Proofs.YtpobnjbpglaohaaGreat

/- sexpr: token, walked. -/
import Derived.Test.YtebgaicapjpohaaDoorRegA
import Derived.Test.YtebgaicapjpohaaDoorSeV
import Derived.Deep.DeepCutAuto
import Derived.Deep.CutBlock
namespace Go.Proofs.YtebgaicapjpohaaDoor
set_option linter.unusedSimpArgs false
set_option linter.unusedVariables false
open Go Go.RowKit
set_option linter.unusedVariables false

/-- What is behind token. -/
def TokRet (B R : Nat) (s : List UInt8) (k : Nat) (l c : Int) (n : Nat) (O : Value) (init : List Op1) (o : Op1) (w : World) (e : Ending) (w' : World) : Prop :=
  e = .returned (erV (tkE (tkOf s k) n (l, c))) ∧ Kb (bdS R O (init ++ [o])) w w' ∧
  (tkE (tkOf s k) n (l, c) ≠ 0 → RdX w' R (bs s) k l c n O) ∧
  (∀ x, tokP (tkOf s k) (l, c) = .inl x → n ≠ 4096 → RdX w' R (bs s) (k + (tkOf s k).length : Nat) l (c + (tkOf s k).length) (n + 1 : Nat) O ∧ ∃ K' vs, StkAt B R w' O (init ++ [⟨o.x.push x, K', o.ks ++ vs⟩]))
theorem sx_leaf {w : World} {bad : Nat → Prop} (k v l c : Int) (t : List UInt8) : SxIs w bad [.int .i64 k, .int .i64 v, .int .i64 l, .int .i64 c, .string (bs t), .slice none 0 0] (.mk k v l c t []) := by
  unfold SxIs
  exact ⟨none, 0, rfl, fun _ => rfl, Nat.le_refl _, by unfold RowAt; trivial⟩

set_option maxRecDepth 20000 in
set_option maxHeartbeats 4000000 in
theorem token_any (B R gO m cO : Nat) (s : List UInt8) (k : Nat) (l c : Int) (n : Nat) (init : List Op1) (o : Op1) (w : World)
    (hb : RdX w R (bs s) k l c n (.slice (some ⟨gO, 0, none⟩) (m + 1) cO)) (hk : k ≤ s.length) (hs : s.length ≤ 65536) (hp : PosOk k l c) (hn : n ≤ 4096) (hm : init.length = m) (hms : m ≤ 1000) (hks : o.x.kids.length ≤ 100000)
    (h : StkAt B R w (.slice (some ⟨gO, 0, none⟩) (m + 1) cO) (init ++ [o])) :
    Calls Tryd.prog 22 #[.pointer (some ⟨R, 0, none⟩)] w (TokRet B R s k l c n (.slice (some ⟨gO, 0, none⟩) (m + 1) cO) init o w) := by
  have hz := bs_size s
  have hget : ∀ k (h : k < (bs s).size), (bs s)[k] = bt s k := fun k h => bs_get s k h
  have KST := Lib.hid (fun (k : Nat) (l c n : Int) O W (h : RdX W R (bs s) k l c n O) (h1 : k < s.length) (h2 : PosOk k l c) => step_any R s k l c n O W h h1 hs h2.1 (by unfold PosOk at h2; omega) h2.2.2.1 (by unfold PosOk at h2; omega))
  have kad := (fun (n : Int) kk vv ll cc t W hb h => add_any B R gO m cO (bs s) k l c n init o kk vv ll cc t [] none 0 W hb hm hms hks h (sx_leaf kk vv ll cc t))
  simp only [List.length_nil] at kad
  have KAD := Lib.hid kad
  clear kad
  have hextr : ∀ j, (bs s).extract k j = bs ((s.drop k).take (j - k)) := fun j => bs_ext s k j
  obtain ⟨S, hS⟩ : ∃ S, bs s = S := ⟨_, rfl⟩
  have HS := Lib.hid hS
  rw [hS] at hb hz hget KST KAD hextr
  have HG := Lib.hid hget
  have HEX := Lib.hid hextr
  have HB := Lib.hid hb
  have H := Lib.hid h
  have HP := Lib.hid hp
  have rlt := hb.lt
  have hSW := Lib.hid (show ∀ w', Below w.heap.size w w' → w'.cell? ⟨R, 2, none⟩ = some (.int .i64 l) ∧ w'.cell? ⟨R, 3, none⟩ = some (.int .i64 c) from fun w' hb' => ⟨RdX.c2 (HB.out.up hb'), RdX.c3 (HB.out.up hb')⟩)
  clear hget hS hextr h hb hp
  go_enter Tryd.func22, Tryd.ntmps22
  go_wp2_with fail
  refine wp_region_G 10 (fun w' => w'.cell? ⟨R, 2, none⟩ = some (.int .i64 l) ∧ w'.cell? ⟨R, 3, none⟩ = some (.int .i64 c)) (by kernel_rfl) (hSW.out _ (by repeat (first | exact Below.refl _ _ | refine below_dN ?_ _ | refine Below.drew ?_ | refine Below.alloc ?_ (by first | omega | (simp; done) | (simp; omega)) _ | refine Below.setCell ?_ (by first | omega | (simp; done) | (simp; omega)) _ | refine below_step (by assumption) (by first | omega | (simp; done) | (simp; omega)) ?_))) ?_
  intro hG0
  refine wpS1 0 hG0 ?_; intro hG1; clear hG0
  refine wpS1 1 hG1 ?_; intro hG2; clear hG1
  refine wpS1 2 hG2 ?_; intro hG3; clear hG2
  refine wpS2 3 hG3 ?_; intro hG4; clear hG3
  refine wpS1 4 hG4 ?_; intro hG5; clear hG4
  refine wpS1 5 hG5 ?_; intro hG6; clear hG5
  refine wpS1 6 hG6 ?_; intro hG7; clear hG6
  refine wpS2 7 hG7 ?_; intro hG8; clear hG7
  refine wpS1 8 hG8 ?_; intro hG9; clear hG8
  refine wpAnyG_ready (rs := [9]) (by kernel_rfl) (by simp) (AllG.cons rfl hG9 (fun K hK => ?_) AllG.nil)
  (go_simp)
  refine hK.out _ _ (Or.inr (hSW.out _ (by repeat (first | exact Below.refl _ _ | refine below_dN ?_ _ | refine Below.drew ?_ | refine Below.alloc ?_ (by first | omega | (simp; done) | (simp; omega)) _ | refine Below.setCell ?_ (by first | omega | (simp; done) | (simp; omega)) _ | refine below_step (by assumption) (by first | omega | (simp; done) | (simp; omega)) ?_)))) (fun hG10 => wpN ?_); clear hK hG9
  refine wpAnyG_ready (rs := [10]) (by kernel_rfl) (by simp) (AllG.cons rfl hG10 (fun K hK => ?_) AllG.nil)
  (refine step_store6 (by rfl) 34 _ _ (by rfl) w.heap.size 0 (.int .i64 0) (.int .i64 0) (.int .i64 l) (.int .i64 c) (.string ByteArray.empty) (.slice none 0 0) (by rfl) (by rfl) (there_blk (heap_alloc_new _ _) (by decide)) qsizeSx (six_one rfl rfl rfl rfl rfl rfl) ?_; intro wb HWB)
  refine hK.out _ _ (Or.inl rfl) (fun hG11 => wpN ?_); clear hK hG10
  refine wpAnyG_done (by kernel_rfl) ?_ _; clear hG11
  have hbb : Below w.heap.size w wb := by
    rw [HWB.out]
    refine below_set6 ?_ (Nat.le_refl _)
    repeat (first | exact Below.refl _ _ | refine below_dN ?_ _ | refine Below.drew ?_ | refine Below.alloc ?_ (by first | omega | (simp; done) | (simp; omega)) _ | refine Below.setCell ?_ (by first | omega | (simp; done) | (simp; omega)) _ | refine below_step (by assumption) (by first | omega | (simp; done) | (simp; omega)) ?_)
  have hbx : BxI wb w.heap.size 34 #[.int .i64 0, .int .i64 0, .int .i64 l, .int .i64 c, .string (bs []), .slice none 0 0] := by
    rw [HWB.out]
    exact BxI.set6 (BxI.new _ _ _)
  have HX := Lib.hid hbx
  obtain ⟨X, hX⟩ : ∃ X, w.heap.size = X := ⟨_, rfl⟩
  rw [hX] at hbx HX hbb rlt
  have HBX := Lib.hid hbb
  have hxlt := hbx.lt
  have HBR := Lib.hid (HB.out.up (hX ▸ hbb))
  rw [hX]
  clear hbx HWB hbb
  clear hSW
  have c0 := RdX.c0 HBR.out
  have c1 := RdX.c1 HBR.out
  go_upto_block 0 with fail
  obtain ⟨K, hK⟩ : ∃ K, (tkOf s k).length = K := ⟨_, rfl⟩
  have HK := Lib.hid hK
  clear hK
  go_cut [5] (fun v5 wx => v5 = .int .i64 (k + K : Nat) ∧ k + K ≤ s.length ∧ Hid (tkOf s k = (s.drop k).take K) ∧ Hid (∀ i, k ≤ i → i < k + K → tokB (bt s i) = true) ∧ wx = wb)
  case first =>
    have FIN := Lib.hid (show ∀ j, k ≤ j → j ≤ s.length → (∀ i, k ≤ i → i < j → tokB (bt s i) = true) → (j = s.length ∨ tokB (bt s j) = false) → j = k + K ∧ k + K ≤ s.length ∧ Hid (tkOf s k = (s.drop k).take K) ∧ Hid (∀ i, k ≤ i → i < k + K → tokB (bt s i) = true) from fun j h1 h2 h3 h4 => by
      have e := tk_go s k j h3 h1 h2 h4
      have e2 := tk_len h1 h2 e
      rw [HK.out] at e2
      obtain rfl : j = k + K := by omega
      rw [Nat.add_sub_cancel_left] at e
      exact ⟨rfl, h2, Lib.hid e, Lib.hid h3⟩)
    go_wp2_with fail
    go_loopw [5] (fun v wr => ∃ j : Nat, k ≤ j ∧ j ≤ s.length ∧ v = .int .i64 j ∧ Hid (∀ i, k ≤ i → i < j → tokB (bt s i) = true) ∧ wr = wb) (fun v _ => s.length - (intOf v).toNat)
    case atStart => exact ⟨k, Nat.le_refl _, hk, rfl, Lib.hid (fun i h1 h2 => by omega), rfl⟩
    case round =>
      obtain ⟨j, hj1, hj2, rfl, HT, rfl⟩ := hrel
      by_cases hlt : j < s.length
      · have hlt' : j < S.size := by omega
        have hd1 : decide ((j : Int) < (s.length : Int)) = true := by simp; omega
        have HGX := Lib.hid (HG.out j hlt')
        have KSP := Lib.hid (fun W => sep_any S[j] W)
        have KI := Lib.hid (fun W => idx_par S[j] W)
        cases hsep : sepB S[j] with
        | true =>
          have ksp := KSP.out
          rw [hsep] at ksp
          have KS2 := Lib.hid ksp
          have HF := Lib.hid (FIN.out j hj1 hj2 HT.out (.inr (by rw [← HGX.out]; unfold tokB; rw [hsep]; rfl)))
          clear ksp KSP KI hsep
          go_wp2_with fail
          refine (KS2.out _).mono ?_
          rintro e w2 ⟨rfl, e2⟩
          subst w2
          go_wp2
          go_meet
          exact ⟨by have h9 := HF.out.1; first | (rw [h9]; done) | (simp; omega), HF.out.2.1, HF.out.2.2.1, HF.out.2.2.2, by first | rfl | trivial⟩
        | false =>
          have ksp := KSP.out
          rw [hsep] at ksp
          have KS2 := Lib.hid ksp
          have HSE := Lib.hid hsep
          clear ksp KSP hsep
          go_wp2_with fail
          refine (KS2.out _).mono ?_
          rintro e w2 ⟨rfl, e2⟩
          subst w2
          go_wp2_with fail
          refine (KI.out _).mono ?_
          rintro e w2 ⟨⟨m0, rfl, hm0⟩, e2⟩
          subst w2
          by_cases hn0 : m0 < 0
          · have HTB := Lib.hid (show tokB (bt s j) = true by
              rw [← HGX.out]
              unfold tokB
              rw [HSE.out]
              have := hm0.1 hn0
              cases h : (S[j] == 40 || S[j] == 41 || S[j] == 59) with
              | true => exact absurd h this
              | false => rfl)
            have hd2 : decide (m0 < 0) = true := by simp; omega
            clear hm0
            go_wp2
            go_roundw
            case rel => exact ⟨j + 1, by omega, by omega, rfl, Lib.hid (fun i h1 h2 => by
              by_cases e : i = j
              · subst e; exact HTB.out
              · exact HT.out i h1 (by omega)), by first | rfl | trivial⟩
            case measure => simp [intOf]; omega
          · have HTB := Lib.hid (show tokB (bt s j) = false by
              rw [← HGX.out]
              unfold tokB
              rw [HSE.out]
              cases h : (S[j] == 40 || S[j] == 41 || S[j] == 59) with
              | true => rfl
              | false => exact absurd (hm0.2 (by rw [h]; decide)) hn0)
            have HF := Lib.hid (FIN.out j hj1 hj2 HT.out (.inr HTB.out))
            have hd2 : decide (m0 < 0) = false := by simp; omega
            clear hm0
            go_wp2
            go_meet
            exact ⟨by have h9 := HF.out.1; first | (rw [h9]; done) | (simp; omega), HF.out.2.1, HF.out.2.2.1, HF.out.2.2.2, by first | rfl | trivial⟩
      · have hd1 : decide ((j : Int) < (s.length : Int)) = false := by simp; omega
        have HF := Lib.hid (FIN.out j hj1 hj2 HT.out (.inl (by omega)))
        go_wp2
        go_meet
        exact ⟨by have h9 := HF.out.1; first | (rw [h9]; done) | (simp; omega), HF.out.2.1, HF.out.2.2.1, HF.out.2.2.2, by first | rfl | trivial⟩
  case rest =>
    obtain ⟨rfl, hkK, HTK, HALL, hwc⟩ := hcut
    have hwc := hwc.symm
    subst hwc
    obtain ⟨T, hT⟩ : ∃ T, tkOf s k = T := ⟨_, rfl⟩
    have hTl : T.length = K := by rw [← hT]; exact HK.out
    have hext : S.extract k (k + K) = bs T := by
      rw [HEX.out (k + K), ← hT, HTK.out, Nat.add_sub_cancel_left]
    have hTs : T.length ≤ 65536 := by omega
    have KN := Lib.hid (fun W => numeric_any T W hTs)
    have KV := Lib.hid (fun W (hN : numB T = true) => value_any T W hTs hN)
    have KL := Lib.hid (fun W => lower_any T W hTs)
    have HHT := Lib.hid hTl
    rw [hT] at HK HTK
    have HTT := Lib.hid hT
    clear hTl hT
    have HEX2 := Lib.hid hext
    clear hext
    go_upto_region 7 with fail
    rw [HEX2.out]
    obtain ⟨bn, hbn⟩ : ∃ bn, numB T = bn := ⟨_, rfl⟩
    have HBN := Lib.hid hbn
    have kn := KN.out
    rw [hbn] at kn
    have KN2 := Lib.hid kn
    clear kn KN hbn
    go_wp2_with fail
    refine (KN2.out _).mono ?_
    rintro e w2 ⟨rfl, e2⟩
    subst w2
    go_upto_if 62 with fail
    go_cut [7, 8, 9, 10] (fun v7 v8 v9 v10 wx => ∃ kd vl tx, Hid (tokP T (l, c) = .inl (.mk kd vl l c tx [])) ∧ Hid (BxI wx X 34 #[.int .i64 kd, .int .i64 vl, .int .i64 l, .int .i64 c, .string (bs tx), .slice none 0 0]) ∧ Hid (Below X w wx))
    case first =>
      have d0 := HX.out.cell 0 _ rfl
      have d1 := HX.out.cell 1 _ rfl
      have f0 := HX.out.fz 0
      have f1 := HX.out.fz 1
      have f4 := HX.out.fz 4
      have ERR := Lib.hid (show ∀ e' w', tokP T (l, c) = .inr e' → Below X w w' → e' ≠ 0 → TokRet B R s k l c n (.slice (some ⟨gO, 0, none⟩) (m + 1) cO) init o w (.returned (erV e')) w' from fun e' w' h1 h2 h3 => by
        have hE : tkE (tkOf s k) n (l, c) = e' := by
          unfold tkE
          rw [HTT.out, h1]
        refine ⟨by rw [hE], Kb.of_below (by rw [hX]; exact h2), fun _ => ?_, fun x hx => ?_⟩
        · rw [HS.out]; exact HB.out.up (by rw [hX]; exact h2)
        · rw [HTT.out, h1] at hx; cases hx)
      cases bn with
      | true =>
        have hnum := HBN.out
        have kv := fun W => KV.out W hnum
        have HTP := Lib.hid (show tokP T (l, c) = match valueP T with | some n => .inl (.mk 2 n l c [] []) | none => .inr 1 by
          unfold tokP
          rw [if_pos hnum]
          cases valueP T <;> rfl)
        clear KV KL hnum
        cases hv : valueP T with
        | none =>
          rw [hv] at kv
          have KV2 := Lib.hid kv
          have HTP2 := HTP.out
          rw [hv] at HTP2
          have HR := Lib.hid (ERR.out 1 wb HTP2 HBX.out (by decide))
          clear kv HTP2 HTP hv
          go_wp2_with fail
          refine (KV2.out _).mono ?_
          rintro e w2 ⟨rfl, e2⟩
          subst w2
          unfold valV
          go_wp2
          refine bodyPost_ret (v := .iface 41 (.int .i64 1)) (by simp [results, Tryd.results22, go_sem, ↓IntWalk.iteOmega, *]) rfl HR.out
        | some nv =>
          rw [hv] at kv
          have KV2 := Lib.hid kv
          have HTP2 := HTP.out
          rw [hv] at HTP2
          have HTP3 := Lib.hid HTP2
          clear kv HTP2 HTP hv ERR
          go_wp2_with fail
          refine (KV2.out _).mono ?_
          rintro e w2 ⟨rfl, e2⟩
          subst w2
          unfold valV
          go_wp2
          go_meet
          exact ⟨2, nv, [], HTP3, Lib.hid ((HX.out.set 0 _).set 1 _), Lib.hid ((HBX.out.setCell (p := ⟨X, 0, none⟩) (Nat.le_refl _) _).setCell (p := ⟨X, 1, none⟩) (Nat.le_refl _) _)⟩
      | false =>
        have hnum := HBN.out
        have kl := KL.out
        have HTP := Lib.hid (show tokP T (l, c) = match lowerP T with | some t => .inl (.mk 1 0 l c t []) | none => .inr 8 by
          unfold tokP
          rw [if_neg (by rw [hnum]; decide)]
          cases lowerP T <;> rfl)
        clear KV KL hnum
        cases hv : lowerP T with
        | none =>
          rw [hv] at kl
          have KV2 := Lib.hid kl
          have HTP2 := HTP.out
          rw [hv] at HTP2
          have HR := Lib.hid (fun w' hb' => ERR.out 8 w' HTP2 hb' (by decide))
          clear kl HTP2 HTP hv
          go_wp2_with fail
          refine (KV2.out _).mono ?_
          rintro e w2 ⟨rfl, hb2⟩
          have HB2 := Lib.hid hb2
          clear hb2
          unfold lowV
          go_wp2
          refine bodyPost_ret (v := .iface 41 (.int .i64 8)) (by simp [results, Tryd.results22, go_sem, ↓IntWalk.iteOmega, *]) rfl (HR.out _ (HBX.out.trans (HB2.out.mono (Nat.le_of_lt hxlt))))
        | some tv =>
          rw [hv] at kl
          have KV2 := Lib.hid kl
          have HTP2 := HTP.out
          rw [hv] at HTP2
          have HTP3 := Lib.hid HTP2
          clear kl HTP2 HTP hv ERR d0 d1 f0 f1 f4
          go_wp2_with fail
          refine (KV2.out _).mono ?_
          rintro e w2 ⟨rfl, hb2⟩
          have HB2 := Lib.hid hb2
          have HX2 := Lib.hid (HX.out.up hb2)
          clear hb2
          have d0 := HX2.out.cell 0 _ rfl
          have d4 := HX2.out.cell 4 _ rfl
          have f0 := HX2.out.fz 0
          have f4 := HX2.out.fz 4
          clear c0 c1
          unfold lowV
          go_wp2
          go_meet
          exact ⟨1, 0, tv, HTP3, Lib.hid ((HX2.out.set 0 _).set 4 _), Lib.hid (((HBX.out.trans (HB2.out.mono (Nat.le_of_lt hxlt))).setCell (p := ⟨X, 0, none⟩) (Nat.le_refl _) _).setCell (p := ⟨X, 4, none⟩) (Nat.le_refl _) _)⟩
    case rest =>
      obtain ⟨kd, vl, tx, HTP, HX3, HB3⟩ := hcut
      have HBR3 := Lib.hid (HB.out.up (hX ▸ HB3.out))
      have H3 := Lib.hid (H.out.up (hX ▸ HB3.out))
      have hne : R ≠ X := by omega
      clear c0 c1
      have c4 := RdX.c4 HBR3.out
      have f4 := HBR3.out.fz 4
      by_cases hn4 : n = 4096
      · have hE := Lib.hid (show tkE (tkOf s k) n (l, c) = 5 by
          unfold tkE
          rw [HTT.out, HTP.out]
          exact if_pos hn4)
        have hn5 : (n : Int) = 4096 := by omega
        have HN4 := Lib.hid hn4
        clear hn4
        go_wp2
        refine bodyPost_ret (v := .iface 41 (.int .i64 5)) (by simp [results, Tryd.results22, go_sem, ↓IntWalk.iteOmega, *]) rfl ⟨by rw [hE.out]; rfl, Kb.of_below (hX ▸ HB3.out), fun _ => ?_, fun x _ h => absurd HN4.out h⟩
        rw [HS.out]
        exact HBR3.out
      · have hn5 : ¬ (n : Int) = 4096 := by omega
        have HE := Lib.hid (show tkE (tkOf s k) n (l, c) = 0 by
          unfold tkE
          rw [HTT.out, HTP.out]
          exact if_neg hn4)
        have d0 := HX3.out.cell 0 _ rfl
        have d1 := HX3.out.cell 1 _ rfl
        have d2 := HX3.out.cell 2 _ rfl
        have d3 := HX3.out.cell 3 _ rfl
        have d4 := HX3.out.cell 4 _ rfl
        have d5 := HX3.out.cell 5 _ rfl
        have HN4 := Lib.hid hn4
        clear hn4
        go_wp2_with fail
        have HW4 := Lib.hid (RdX.s4 HBR3.out ((n : Int) + 1))
        have HK4 := Lib.hid (show Kb (fun g => g = R) wc (wc.setCell ⟨R, 4, none⟩ (.int .i64 ((n : Int) + 1))) from (Kb.refl (fun g => g = R) wc).set (p := ⟨R, 4, none⟩) (.inl rfl) _)
        refine (KAD.out ((n : Int) + 1) kd vl l c tx _ HW4.out (H3.out.box HK4.out)).mono ?_
        rintro e wa ⟨rfl, ⟨K', hxa, hstka⟩, hkba⟩
        have HXA := Lib.hid hxa
        have HSTA := Lib.hid hstka
        have HKA := Lib.hid hkba
        clear hxa hstka hkba d0 d1 d2 d3 d4 d5 c4 f4 HW4
        go_upto_block 2 with fail
        go_wp2_with fail
        go_loopw [] (fun wr => ∃ j : Nat, k ≤ j ∧ j ≤ k + K ∧ Hid (RdX wr R S j l (c + (j - k : Nat)) (n + 1 : Int) (.slice (some ⟨gO, 0, none⟩) (m + 1) cO)) ∧ Hid (Kb (fun g => g = R) wa wr)) (fun wr => k + K - atOf R wr)
        case atStart => exact ⟨k, Nat.le_refl _, by omega, by rw [Nat.sub_self, Int.ofNat_zero, Int.add_zero]; exact HXA, Lib.hid (Kb.refl _ _)⟩
        case round =>
          obtain ⟨j, hj1, hj2, HXJ, HKJ⟩ := hrel
          have c1 := RdX.c1 HXJ.out
          by_cases hlt : j < k + K
          · have hd1 : decide ((j : Int) < (k : Int) + (K : Int)) = true := by simp; omega
            have HTB := Lib.hid (HALL.out j hj1 hlt)
            have hpk := HP.out
            have HPJ := Lib.hid (show PosOk j l (c + (j - k : Nat)) by unfold PosOk at hpk ⊢; omega)
            clear hpk
            go_wp2_with fail
            refine (KST.out j l (c + (j - k : Nat)) ((n : Int) + 1) _ _ HXJ.out (by omega) HPJ.out).mono ?_
            rintro e w3 ⟨rfl, hx3, hk3⟩
            have HS3 := Lib.hid (show stepP (bt s j) (l, c + (j - k : Nat)) = (l, c + (j + 1 - k : Nat)) by
              unfold stepP
              rw [if_neg (tok_nl HTB.out)]
              congr 1
              omega)
            rw [HS3.out] at hx3
            have HX4 := Lib.hid hx3
            have HK3 := Lib.hid hk3
            clear hx3 hk3 c1
            go_wp2
            go_roundw
            case rel => exact ⟨j + 1, by omega, by omega, HX4, Lib.hid (HKJ.out.trans HK3.out)⟩
            case measure =>
              have m1 := RdX.at0 HX4.out
              have m2 := RdX.at0 HXJ.out
              omega
          · obtain rfl : j = k + K := by omega
            have hd1 : decide (((k + K : Nat) : Int) < (k : Int) + (K : Int)) = false := by simp
            go_wp2
            refine bodyPost_ret (v := .nilIface) (by simp [results, Tryd.results22, go_sem, ↓IntWalk.iteOmega, *]) rfl ⟨by rw [HE.out]; rfl, ?_, fun h => absurd HE.out h, fun x hx _ => ?_⟩
            · refine (Kb.of_below (hX ▸ HB3.out)).trans ((HK4.out.weak fun g hg => .inl hg).trans (HKA.out.trans (HKJ.out.weak fun g hg => .inl hg)))
            · rw [HTT.out, HTP.out] at hx
              cases hx
              rw [HTT.out, HHT.out, HS.out]
              refine ⟨?_, K', _, HSTA.out.box HKJ.out⟩
              have := HXJ.out
              rw [Nat.add_sub_cancel_left] at this
              exact this
end Go.Proofs.YtebgaicapjpohaaDoor

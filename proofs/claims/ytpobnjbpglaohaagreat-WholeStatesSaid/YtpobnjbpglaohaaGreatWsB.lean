/- pqueue: down, walked. -/
import Derived.Test.YtpobnjbpglaohaaGreatWgA
import Derived.Test.YtpobnjbpglaohaaGreatWsA
namespace Go.Proofs.YtpobnjbpglaohaaGreat
set_option linter.unusedSimpArgs false
set_option linter.unusedVariables false
open Go Go.RowKit
set_option linter.unusedVariables false

set_option maxRecDepth 20000 in
set_option maxHeartbeats 16000000 in
theorem qdown_any {w : World} {base Q N HC : Nat} {HA : Option Addr} {nx : Int} {es : List QE} (h : QuAt w base Q N HA HC nx es) (hb : base ≤ w.heap.size) :
    Calls Tryz.prog 74 #[.pointer (some ⟨Q, 0, none⟩), .int .i64 0] w fun e w' => (e = .returned (.tuple #[]) ∧ ∃ es', es'.length = es.length ∧ QuAt w' base Q N HA HC nx es') ∧ Below base w w' := by
  have hfew := h.few
  obtain ⟨n, hn⟩ : ∃ n, n = es.length := ⟨_, rfl⟩
  have HQ := Lib.hid h
  have HNN := Lib.hid hn
  rw [← hn] at hfew
  rw [← hn]
  clear h hn
  go_enter Tryz.func74, Tryz.ntmps74
  go_wp2_with fail
  go_loopw [1] (fun v1 wr => ∃ (i : Nat) (es' : List QE), v1 = .int .i64 i ∧ i ≤ n ∧ Hid (es'.length = n) ∧ Hid (QuAt wr base Q N HA HC nx es') ∧ Hid (Below base w wr)) (fun v _ => n - (RowKit.intOf v).toNat)
  case atStart => exact ⟨0, es, rfl, Nat.zero_le _, Lib.hid HNN.out.symm, HQ, Lib.hid (Below.refl _ _)⟩
  case round =>
    obtain ⟨i, es', rfl, hi, HLN, HQR, HE⟩ := hrel
    have hzr := HE.out.size
    obtain ⟨wt, rfl⟩ : ∃ wt : World, wt = wr := ⟨_, rfl⟩
    have hQlt := HQR.out.box.lt
    have q0 : wt.cell? ⟨Q, 0, none⟩ = some (.slice HA n HC) := by have := HQR.out.box.cell 0 _ rfl; rw [HLN.out] at this; exact this
    obtain ⟨k, hk⟩ : ∃ k, k = 2 * i + 1 := ⟨_, rfl⟩
    have hki : i < k := by omega
    have hkr : 2 * (i : Int) + 1 = (k : Int) := by omega
    have hkk : k ≤ 200000 := by omega
    clear hk
    by_cases hkn : k < n
    · obtain ⟨g, rfl, hg1, hg2⟩ := HQR.out.adr (by rw [HLN.out]; omega)
      have hcap : n ≤ HC := by have := HQR.out.cap; rw [HLN.out] at this; exact this
      have hd1 : decide ((n : Int) ≤ (k : Int)) = false := decide_eq_false (by omega)
      go_upto_region 1 with fail
      (try rw [hkr])
      clear hkr
      go_wp2_with fail
      clear hd1 q0
      go_cut [40] (fun v40 wx => ∃ c, v40 = .bool c ∧ (c = true → k + 1 < n) ∧ Hid (Below wt.heap.size wt wx))
      case first =>
        by_cases hk1 : k + 1 < n
        · obtain ⟨x, hx⟩ : ∃ x, x = qe es' (k + 1) := ⟨_, rfl⟩
          obtain ⟨y, hy⟩ : ∃ y, y = qe es' k := ⟨_, rfl⟩
          have HS := Lib.hid (show ∀ w' : World, Below wt.heap.size wt w' → w'.cell? ⟨Q, 0, none⟩ = some (.slice (some ⟨g, 0, none⟩) n HC) ∧ (w'.cell? ⟨g, (k + 1) * 4, none⟩ = some (.int .i64 x.key) ∧ w'.cell? ⟨g, (k + 1) * 4 + 1, none⟩ = some (.int .i64 x.tie) ∧ w'.cell? ⟨g, (k + 1) * 4 + 2, none⟩ = some (.int .i64 x.item) ∧ w'.cell? ⟨g, (k + 1) * 4 + 3, none⟩ = some (.int .i64 x.num)) ∧ (w'.cell? ⟨g, k * 4, none⟩ = some (.int .i64 y.key) ∧ w'.cell? ⟨g, k * 4 + 1, none⟩ = some (.int .i64 y.tie) ∧ w'.cell? ⟨g, k * 4 + 2, none⟩ = some (.int .i64 y.item) ∧ w'.cell? ⟨g, k * 4 + 3, none⟩ = some (.int .i64 y.num)) from fun w' hb => ⟨by have := (HQR.out.box.up hb).cell 0 _ rfl; rw [HLN.out] at this; exact this, by rw [hx]; exact HQR.out.reads (by rw [HLN.out]; exact hk1) hb, by rw [hy]; exact HQR.out.reads (by rw [HLN.out]; exact hkn) hb⟩)
          have hw1 : IntKind.i64.wrap ((k : Int) + 1) = (k : Int) + 1 := i64_nat (k + 1) (by omega)
          have hd2 : decide ((k : Int) + 1 < (n : Int)) = true := decide_eq_true (by omega)
          clear hx hy
          refine wp_region_G 24 (fun w' => w'.cell? ⟨Q, 0, none⟩ = some (.slice (some ⟨g, 0, none⟩) n HC) ∧ (w'.cell? ⟨g, (k + 1) * 4, none⟩ = some (.int .i64 x.key) ∧ w'.cell? ⟨g, (k + 1) * 4 + 1, none⟩ = some (.int .i64 x.tie) ∧ w'.cell? ⟨g, (k + 1) * 4 + 2, none⟩ = some (.int .i64 x.item) ∧ w'.cell? ⟨g, (k + 1) * 4 + 3, none⟩ = some (.int .i64 x.num)) ∧ (w'.cell? ⟨g, k * 4, none⟩ = some (.int .i64 y.key) ∧ w'.cell? ⟨g, k * 4 + 1, none⟩ = some (.int .i64 y.tie) ∧ w'.cell? ⟨g, k * 4 + 2, none⟩ = some (.int .i64 y.item) ∧ w'.cell? ⟨g, k * 4 + 3, none⟩ = some (.int .i64 y.num))) (by kernel_rfl) (HS.out _ (by repeat (first | exact Below.refl _ _ | refine below_dN ?_ _ | refine Below.drew ?_ | refine Below.alloc ?_ (by first | omega | (simp; done) | (simp; omega)) _ | refine Below.setCell ?_ (by first | omega | (simp; done) | (simp; omega)) _ | refine below_step (by assumption) (by first | omega | (simp; done) | (simp; omega)) ?_))) ?_
          intro hG0
          refine wpS1 0 hG0 ?_; intro hG1; clear hG0
          refine wpS1 1 hG1 ?_; intro hG2; clear hG1
          refine wpS1 2 hG2 ?_; intro hG3; clear hG2
          refine wpS1 3 hG3 ?_; intro hG4; clear hG3
          refine wpS1 4 hG4 ?_; intro hG5; clear hG4
          refine wpS2 5 hG5 ?_; intro hG6; clear hG5
          refine wpS1 6 hG6 ?_; intro hG7; clear hG6
          refine wpS1 7 hG7 ?_; intro hG8; clear hG7
          refine wpS3 8 (.bool true) hG8 ?_; intro hG9; clear hG8
          refine wpS1 9 hG9 ?_; intro hG10; clear hG9
          refine wpS1 10 hG10 ?_; intro hG11; clear hG10
          refine wpS1 11 hG11 ?_; intro hG12; clear hG11
          refine wpS2 12 hG12 ?_; intro hG13; clear hG12
          refine wpS1 13 hG13 ?_; intro hG14; clear hG13
          refine wpS1 14 hG14 ?_; intro hG15; clear hG14
          refine wpS1 15 hG15 ?_; intro hG16; clear hG15
          refine wpS2 16 hG16 ?_; intro hG17; clear hG16
          refine wpS1 17 hG17 ?_; intro hG18; clear hG17
          refine wpS1 18 hG18 ?_; intro hG19; clear hG18
          refine wpS1 19 hG19 ?_; intro hG20; clear hG19
          refine wpS2 20 hG20 ?_; intro hG21; clear hG20
          refine wpS1 21 hG21 ?_; intro hG22; clear hG21
          refine wpS1 22 hG22 ?_; intro hG23; clear hG22
          refine wpS2 23 hG23 ?_; intro hG24; clear hG23
          refine wpAnyG_ready (rs := [24]) (by kernel_rfl) (by simp) (AllG.cons rfl hG24 (fun K hK => ?_) AllG.nil)
          refine (if_pos (by rfl)).mpr ?_
          (go_simp; go_at_call 78; refine (before_any x y _).mono ?_; rintro e w5 ⟨⟨c, rfl⟩, hb5⟩; have HB5 := Lib.hid (show Below wt.heap.size wt w5 from below_step hb5 (show wt.heap.size ≤ _ by simp) (show Below wt.heap.size wt _ by repeat (first | exact Below.refl _ _ | refine below_dN ?_ _ | refine Below.drew ?_ | refine Below.alloc ?_ (by first | omega | (simp; done) | (simp; omega)) _ | refine Below.setCell ?_ (by first | omega | (simp; done) | (simp; omega)) _ | refine below_step (by assumption) (by first | omega | (simp; done) | (simp; omega)) ?_))); clear hb5)
          refine hK.out _ _ (Or.inl rfl) (fun hG25 => wpN ?_); clear hK hG24
          refine wpS1 25 hG25 ?_; intro hG26; clear hG25
          refine wpAnyG_done (by kernel_rfl) ?_ _; clear hG26
          go_wp2
          go_meet
          exact ⟨c, rfl, fun _ => hk1, HB5⟩
        · have HS := Lib.hid (show ∀ w' : World, Below wt.heap.size wt w' → w'.cell? ⟨Q, 0, none⟩ = some (.slice (some ⟨g, 0, none⟩) n HC) from fun w' hb => by have := (HQR.out.box.up hb).cell 0 _ rfl; rw [HLN.out] at this; exact this)
          have hw1 : IntKind.i64.wrap ((k : Int) + 1) = (k : Int) + 1 := i64_nat (k + 1) (by omega)
          have hd2 : decide ((k : Int) + 1 < (n : Int)) = false := decide_eq_false (by omega)
          refine wp_region_G 25 (fun w' => w'.cell? ⟨Q, 0, none⟩ = some (.slice (some ⟨g, 0, none⟩) n HC)) (by kernel_rfl) (HS.out _ (by repeat (first | exact Below.refl _ _ | refine below_dN ?_ _ | refine Below.drew ?_ | refine Below.alloc ?_ (by first | omega | (simp; done) | (simp; omega)) _ | refine Below.setCell ?_ (by first | omega | (simp; done) | (simp; omega)) _ | refine below_step (by assumption) (by first | omega | (simp; done) | (simp; omega)) ?_))) ?_
          intro hG0
          refine wpS1 0 hG0 ?_; intro hG1; clear hG0
          refine wpS1 1 hG1 ?_; intro hG2; clear hG1
          refine wpS1 2 hG2 ?_; intro hG3; clear hG2
          refine wpS1 3 hG3 ?_; intro hG4; clear hG3
          refine wpS1 4 hG4 ?_; intro hG5; clear hG4
          refine wpS2 5 hG5 ?_; intro hG6; clear hG5
          refine wpS1 6 hG6 ?_; intro hG7; clear hG6
          refine wpS1 7 hG7 ?_; intro hG8; clear hG7
          refine wpS3 8 (.bool false) hG8 ?_; intro hG9; clear hG8
          refine wpS0 9 hG9 ?_; intro hG10; clear hG9
          refine wpS0 10 hG10 ?_; intro hG11; clear hG10
          refine wpS0 11 hG11 ?_; intro hG12; clear hG11
          refine wpS0 12 hG12 ?_; intro hG13; clear hG12
          refine wpS0 13 hG13 ?_; intro hG14; clear hG13
          refine wpS0 14 hG14 ?_; intro hG15; clear hG14
          refine wpS0 15 hG15 ?_; intro hG16; clear hG15
          refine wpS0 16 hG16 ?_; intro hG17; clear hG16
          refine wpS0 17 hG17 ?_; intro hG18; clear hG17
          refine wpS0 18 hG18 ?_; intro hG19; clear hG18
          refine wpS0 19 hG19 ?_; intro hG20; clear hG19
          refine wpS0 20 hG20 ?_; intro hG21; clear hG20
          refine wpS0 21 hG21 ?_; intro hG22; clear hG21
          refine wpS0 22 hG22 ?_; intro hG23; clear hG22
          refine wpS0 23 hG23 ?_; intro hG24; clear hG23
          refine wpS0 24 hG24 ?_; intro hG25; clear hG24
          refine wpAnyG_ready (rs := [25]) (by kernel_rfl) (by simp) (AllG.cons rfl hG25 (fun K hK => ?_) AllG.nil)
          (go_simp)
          refine hK.out _ _ (Or.inl rfl) (fun hG26 => wpN ?_); clear hK hG25
          refine wpAnyG_done (by kernel_rfl) ?_ _; clear hG26
          go_wp2
          go_meet
          exact ⟨false, rfl, (fun h => by cases h), Lib.hid (by repeat (first | exact Below.refl _ _ | refine below_dN ?_ _ | refine Below.drew ?_ | refine Below.alloc ?_ (by first | omega | (simp; done) | (simp; omega)) _ | refine Below.setCell ?_ (by first | omega | (simp; done) | (simp; omega)) _ | refine below_step (by assumption) (by first | omega | (simp; done) | (simp; omega)) ?_))⟩
      case rest =>
        obtain ⟨c, rfl, hc1, HB5⟩ := hcut
        obtain ⟨w5, rfl⟩ : ∃ w5, w5 = wc := ⟨_, rfl⟩
        go_upto_if 40 with fail
        go_cut [4] (fun v4 wx => ∃ p : Nat, v4 = .int .i64 p ∧ i < p ∧ p < n ∧ wx = w5)
        case first =>
          cases c
          · go_wp2
            go_meet
            exact ⟨k, rfl, hki, hkn, by first | rfl | trivial⟩
          · have := hc1 rfl
            go_wp2
            go_meet
            exact ⟨k + 1, by go_num, by omega, this, by first | rfl | trivial⟩
        case rest =>
        obtain ⟨p, rfl, hip, hpn, hwc⟩ := hcut
        have hwc := hwc.symm
        subst hwc
        have hz5 := HB5.out.size
        have HQ5 := Lib.hid (HQR.out.up HB5.out)
        have HE5 := Lib.hid (HE.out.trans (HB5.out.mono (by omega)))
        have hQlt5 := HQ5.out.box.lt
        obtain ⟨x, hx⟩ : ∃ x, x = qe es' i := ⟨_, rfl⟩
        obtain ⟨y, hy⟩ : ∃ y, y = qe es' p := ⟨_, rfl⟩
        have hil : i < es'.length := by rw [HLN.out]; omega
        have hpl : p < es'.length := by rw [HLN.out]; omega
        have HIL := Lib.hid hil
        have HPL := Lib.hid hpl
        have HXL := Lib.hid (show 0 ≤ x.item ∧ x.item < (N : Int) by rw [hx]; exact HQR.out.lt _ (qe_mem hil))
        have HYL := Lib.hid (show 0 ≤ y.item ∧ y.item < (N : Int) by rw [hy]; exact HQR.out.lt _ (qe_mem hpl))
        have HS := Lib.hid (show ∀ w' : World, Below w5.heap.size w5 w' → w'.cell? ⟨Q, 0, none⟩ = some (.slice (some ⟨g, 0, none⟩) n HC) ∧ (w'.cell? ⟨g, i * 4, none⟩ = some (.int .i64 x.key) ∧ w'.cell? ⟨g, i * 4 + 1, none⟩ = some (.int .i64 x.tie) ∧ w'.cell? ⟨g, i * 4 + 2, none⟩ = some (.int .i64 x.item) ∧ w'.cell? ⟨g, i * 4 + 3, none⟩ = some (.int .i64 x.num)) ∧ (w'.cell? ⟨g, p * 4, none⟩ = some (.int .i64 y.key) ∧ w'.cell? ⟨g, p * 4 + 1, none⟩ = some (.int .i64 y.tie) ∧ w'.cell? ⟨g, p * 4 + 2, none⟩ = some (.int .i64 y.item) ∧ w'.cell? ⟨g, p * 4 + 3, none⟩ = some (.int .i64 y.num)) from fun w' hb => ⟨by have := (HQ5.out.box.up hb).cell 0 _ rfl; rw [HLN.out] at this; exact this, by rw [hx]; exact HQ5.out.reads hil hb, by rw [hy]; exact HQ5.out.reads hpl hb⟩)
        have hil2 : i < n := by omega
        clear hx hy hil hpl
        go_wp2_with fail
        go_cut [58] (fun v58 wx => ∃ c, v58 = .bool c ∧ Hid (Below w5.heap.size w5 wx))
        case first =>
          refine wp_region_G 14 (fun w' => w'.cell? ⟨Q, 0, none⟩ = some (.slice (some ⟨g, 0, none⟩) n HC) ∧ (w'.cell? ⟨g, i * 4, none⟩ = some (.int .i64 x.key) ∧ w'.cell? ⟨g, i * 4 + 1, none⟩ = some (.int .i64 x.tie) ∧ w'.cell? ⟨g, i * 4 + 2, none⟩ = some (.int .i64 x.item) ∧ w'.cell? ⟨g, i * 4 + 3, none⟩ = some (.int .i64 x.num)) ∧ (w'.cell? ⟨g, p * 4, none⟩ = some (.int .i64 y.key) ∧ w'.cell? ⟨g, p * 4 + 1, none⟩ = some (.int .i64 y.tie) ∧ w'.cell? ⟨g, p * 4 + 2, none⟩ = some (.int .i64 y.item) ∧ w'.cell? ⟨g, p * 4 + 3, none⟩ = some (.int .i64 y.num))) (by kernel_rfl) (HS.out _ (by repeat (first | exact Below.refl _ _ | refine below_dN ?_ _ | refine Below.drew ?_ | refine Below.alloc ?_ (by first | omega | (simp; done) | (simp; omega)) _ | refine Below.setCell ?_ (by first | omega | (simp; done) | (simp; omega)) _ | refine below_step (by assumption) (by first | omega | (simp; done) | (simp; omega)) ?_))) ?_
          intro hG0
          refine wpS1 0 hG0 ?_; intro hG1; clear hG0
          refine wpS1 1 hG1 ?_; intro hG2; clear hG1
          refine wpS1 2 hG2 ?_; intro hG3; clear hG2
          refine wpS2 3 hG3 ?_; intro hG4; clear hG3
          refine wpS1 4 hG4 ?_; intro hG5; clear hG4
          refine wpS1 5 hG5 ?_; intro hG6; clear hG5
          refine wpS2 6 hG6 ?_; intro hG7; clear hG6
          refine wpS1 7 hG7 ?_; intro hG8; clear hG7
          refine wpS1 8 hG8 ?_; intro hG9; clear hG8
          refine wpS1 9 hG9 ?_; intro hG10; clear hG9
          refine wpS2 10 hG10 ?_; intro hG11; clear hG10
          refine wpS1 11 hG11 ?_; intro hG12; clear hG11
          refine wpS1 12 hG12 ?_; intro hG13; clear hG12
          refine wpS2 13 hG13 ?_; intro hG14; clear hG13
          refine wpAnyG_ready (rs := [14]) (by kernel_rfl) (by simp) (AllG.cons rfl hG14 (fun K hK => ?_) AllG.nil)
          (go_simp; go_at_call 78; refine (before_any y x _).mono ?_; rintro e w7 ⟨⟨c, rfl⟩, hb7⟩; have HB7 := Lib.hid (show Below w5.heap.size w5 w7 from below_step hb7 (show w5.heap.size ≤ _ by simp) (show Below w5.heap.size w5 _ by repeat (first | exact Below.refl _ _ | refine below_dN ?_ _ | refine Below.drew ?_ | refine Below.alloc ?_ (by first | omega | (simp; done) | (simp; omega)) _ | refine Below.setCell ?_ (by first | omega | (simp; done) | (simp; omega)) _ | refine below_step (by assumption) (by first | omega | (simp; done) | (simp; omega)) ?_))); clear hb7)
          refine hK.out _ _ (Or.inl rfl) (fun hG15 => wpN ?_); clear hK hG14
          refine wpS1 15 hG15 ?_; intro hG16; clear hG15
          refine wpAnyG_done (by kernel_rfl) ?_ _; clear hG16
          go_wp2
          go_meet
          exact ⟨!c, rfl, HB7⟩
        case rest =>
        obtain ⟨c2, rfl, HB7⟩ := hcut
        obtain ⟨w7, rfl⟩ : ∃ w7, w7 = wc := ⟨_, rfl⟩
        have hz7 := HB7.out.size
        have HQ7 := Lib.hid (HQ5.out.up HB7.out)
        have HE7 := Lib.hid (HE5.out.trans (HB7.out.mono (by omega)))
        cases c2
        · go_wp2_with fail
          have HS7 := Lib.hid (show ∀ w' : World, Below w7.heap.size w7 w' → w'.cell? ⟨Q, 0, none⟩ = some (.slice (some ⟨g, 0, none⟩) n HC) ∧ (w'.cell? ⟨g, i * 4, none⟩ = some (.int .i64 x.key) ∧ w'.cell? ⟨g, i * 4 + 1, none⟩ = some (.int .i64 x.tie) ∧ w'.cell? ⟨g, i * 4 + 2, none⟩ = some (.int .i64 x.item) ∧ w'.cell? ⟨g, i * 4 + 3, none⟩ = some (.int .i64 x.num)) ∧ (w'.cell? ⟨g, p * 4, none⟩ = some (.int .i64 y.key) ∧ w'.cell? ⟨g, p * 4 + 1, none⟩ = some (.int .i64 y.tie) ∧ w'.cell? ⟨g, p * 4 + 2, none⟩ = some (.int .i64 y.item) ∧ w'.cell? ⟨g, p * 4 + 3, none⟩ = some (.int .i64 y.num)) from fun w' hb => HS.out w' (HB7.out.trans (hb.mono hz7)))
          refine wp_region_G 25 (fun w' => w'.cell? ⟨Q, 0, none⟩ = some (.slice (some ⟨g, 0, none⟩) n HC) ∧ (w'.cell? ⟨g, i * 4, none⟩ = some (.int .i64 x.key) ∧ w'.cell? ⟨g, i * 4 + 1, none⟩ = some (.int .i64 x.tie) ∧ w'.cell? ⟨g, i * 4 + 2, none⟩ = some (.int .i64 x.item) ∧ w'.cell? ⟨g, i * 4 + 3, none⟩ = some (.int .i64 x.num)) ∧ (w'.cell? ⟨g, p * 4, none⟩ = some (.int .i64 y.key) ∧ w'.cell? ⟨g, p * 4 + 1, none⟩ = some (.int .i64 y.tie) ∧ w'.cell? ⟨g, p * 4 + 2, none⟩ = some (.int .i64 y.item) ∧ w'.cell? ⟨g, p * 4 + 3, none⟩ = some (.int .i64 y.num))) (by kernel_rfl) (HS7.out _ (by repeat (first | exact Below.refl _ _ | refine below_dN ?_ _ | refine Below.drew ?_ | refine Below.alloc ?_ (by first | omega | (simp; done) | (simp; omega)) _ | refine Below.setCell ?_ (by first | omega | (simp; done) | (simp; omega)) _ | refine below_step (by assumption) (by first | omega | (simp; done) | (simp; omega)) ?_))) ?_
          intro hG0
          refine wpS1 0 hG0 ?_; intro hG1; clear hG0
          refine wpS1 1 hG1 ?_; intro hG2; clear hG1
          refine wpS1 2 hG2 ?_; intro hG3; clear hG2
          refine wpS2 3 hG3 ?_; intro hG4; clear hG3
          refine wpS1 4 hG4 ?_; intro hG5; clear hG4
          refine wpS1 5 hG5 ?_; intro hG6; clear hG5
          refine wpS1 6 hG6 ?_; intro hG7; clear hG6
          refine wpS1 7 hG7 ?_; intro hG8; clear hG7
          refine wpS2 8 hG8 ?_; intro hG9; clear hG8
          refine wpS1 9 hG9 ?_; intro hG10; clear hG9
          refine wpS1 10 hG10 ?_; intro hG11; clear hG10
          refine wpS1 11 hG11 ?_; intro hG12; clear hG11
          refine wpS1 12 hG12 ?_; intro hG13; clear hG12
          refine wpS2 13 hG13 ?_; intro hG14; clear hG13
          refine wpS1 14 hG14 ?_; intro hG15; clear hG14
          refine wpS1 15 hG15 ?_; intro hG16; clear hG15
          refine wpS2 16 hG16 ?_; intro hG17; clear hG16
          refine wpS1 17 hG17 ?_; intro hG18; clear hG17
          refine wpS1 18 hG18 ?_; intro hG19; clear hG18
          refine wpS1 19 hG19 ?_; intro hG20; clear hG19
          refine wpS2 20 hG20 ?_; intro hG21; clear hG20
          refine wpS1 21 hG21 ?_; intro hG22; clear hG21
          refine wpS1 22 hG22 ?_; intro hG23; clear hG22
          refine wpS2 23 hG23 ?_; intro hG24; clear hG23
          refine wpS1 24 hG24 ?_; intro hG25; clear hG24
          refine wpAnyG_ready (rs := [25]) (by kernel_rfl) (by simp) (AllG.cons rfl hG25 (fun K hK => ?_) AllG.nil)
          (refine step_stores (by rfl) 161 _ _ (by rfl) g (i * 4) [.int .i64 y.key, .int .i64 y.tie, .int .i64 y.item, .int .i64 y.num] (by rfl) (by rfl) (there_own (HQ7.out.up (by repeat (first | exact Below.refl _ _ | refine below_dN ?_ _ | refine Below.drew ?_ | refine Below.alloc ?_ (by first | omega | (simp; done) | (simp; omega)) _ | refine Below.setCell ?_ (by first | omega | (simp; done) | (simp; omega)) _ | refine below_step (by assumption) (by first | omega | (simp; done) | (simp; omega)) ?_))).own (by simp; have := HIL.out; omega)) (by kernel_rfl) (four_v rfl rfl rfl rfl) ?_; intro wA HWA; have HQA := Lib.hid ((HQ7.out.up (show Below w7.heap.size w7 w7.drew by repeat (first | exact Below.refl _ _ | refine below_dN ?_ _ | refine Below.drew ?_ | refine Below.alloc ?_ (by first | omega | (simp; done) | (simp; omega)) _ | refine Below.setCell ?_ (by first | omega | (simp; done) | (simp; omega)) _ | refine below_step (by assumption) (by first | omega | (simp; done) | (simp; omega)) ?_))).put HIL.out y HYL.out); rw [← HWA.out] at HQA)
          refine hK.out _ _ (Or.inl rfl) (fun hG26 => wpN ?_); clear hK hG25
          refine wpS1 26 hG26 ?_; intro hG27; clear hG26
          refine wpAnyG_ready (rs := [27]) (by kernel_rfl) (by simp) (AllG.cons rfl hG27 (fun K hK => ?_) AllG.nil)
          (refine step_stores (by rfl) 161 _ _ (by rfl) g (p * 4) [.int .i64 x.key, .int .i64 x.tie, .int .i64 x.item, .int .i64 x.num] (by rfl) (by rfl) (there_own HQA.out.1.own (by simp; have := HPL.out; omega)) (by kernel_rfl) (four_v rfl rfl rfl rfl) ?_; intro wB HWB; have HQB := Lib.hid (HQA.out.1.put (by rw [List.length_set]; exact HPL.out) x HXL.out); rw [← HWB.out] at HQB)
          refine hK.out _ _ (Or.inl rfl) (fun hG28 => wpN ?_); clear hK hG27
          refine wpAnyG_done (by kernel_rfl) ?_ _; clear hG28
          go_wp2
          go_roundw
          case rel => exact ⟨p, (es'.set i y).set p x, rfl, by omega, Lib.hid (by rw [List.length_set, List.length_set]; exact HLN.out), Lib.hid HQB.out.1, Lib.hid ((HE7.out.drew.trans HQA.out.2).trans HQB.out.2)⟩
          case measure => simp [RowKit.intOf]; omega
        · go_wp2_with fail
          refine bodyPost_ret (results_none rfl _ _ _) rfl ⟨⟨rfl, es', HLN.out, HQ7.out⟩, HE7.out⟩
    · have hd1 : decide ((n : Int) ≤ (k : Int)) = true := decide_eq_true (by omega)
      go_upto_region 1 with fail
      (try rw [hkr])
      clear hkr
      go_wp2_with fail
      refine bodyPost_ret (results_none rfl _ _ _) rfl ⟨⟨rfl, es', HLN.out, HQR.out⟩, HE.out⟩
end Go.Proofs.YtpobnjbpglaohaaGreat

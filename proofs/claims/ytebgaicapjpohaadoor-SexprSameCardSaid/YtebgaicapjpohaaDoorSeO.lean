/- sexpr: skip. -/
import Derived.Test.YtebgaicapjpohaaDoorSeN
namespace Go.Proofs.YtebgaicapjpohaaDoor
set_option linter.unusedSimpArgs false
set_option linter.unusedVariables false
open Go Go.RowKit
set_option linter.unusedVariables false

/-- Line and column are small. -/
def PosOk (k : Nat) (l c : Int) : Prop := 0 ≤ l ∧ l ≤ k + 1 ∧ 0 ≤ c ∧ c ≤ k + 1
theorem PosOk.step {k : Nat} {l c : Int} (h : PosOk k l c) (x : UInt8) : PosOk (k + 1) (stepP x (l, c)).1 (stepP x (l, c)).2 := by
  unfold PosOk stepP at *
  split
  · dsimp only; omega
  · dsimp only; omega
theorem skip_nil (p : Int × Int) (b : Bool) : skipP b [] p = ([], p) := by cases b <;> rfl
theorem skip_sep {s : List UInt8} {k : Nat} (h : k < s.length) (hs : sepB (bt s k) = true) (p : Int × Int) : skipP false (s.drop k) p = skipP false (s.drop (k + 1)) (stepP (bt s k) p) := by
  rw [bt_drop h, skipP, if_pos hs]
theorem skip_com {s : List UInt8} {k : Nat} (h : k < s.length) (hs : bt s k = 59) (p : Int × Int) : skipP false (s.drop k) p = skipP true (s.drop k) p := by
  rw [bt_drop h, hs, skipP, skipP, if_neg (by decide), if_pos rfl, if_neg (by decide)]
theorem skip_in {s : List UInt8} {k : Nat} (h : k < s.length) (hs : bt s k ≠ 10) (p : Int × Int) : skipP true (s.drop k) p = skipP true (s.drop (k + 1)) (stepP (bt s k) p) := by
  rw [bt_drop h, skipP, if_neg hs]
theorem skip_out {s : List UInt8} {k : Nat} (h : k < s.length) (hs : bt s k = 10) (p : Int × Int) : skipP true (s.drop k) p = skipP false (s.drop k) p := by
  rw [bt_drop h, hs, skipP, skipP, if_pos rfl, if_pos (by decide)]
theorem skip_tok {s : List UInt8} {k : Nat} (h : k < s.length) (h1 : sepB (bt s k) = false) (h2 : bt s k ≠ 59) (p : Int × Int) : skipP false (s.drop k) p = (s.drop k, p) := by
  rw [bt_drop h, skipP, if_neg (by rw [h1]; decide), if_neg h2]
/-- What is behind a skip. -/
def SkRet (R : Nat) (s : List UInt8) (k : Nat) (res : List UInt8 × Int × Int) (n : Int) (O : Value) (w : World) (e : Ending) (w' : World) : Prop :=
  e = .returned (.tuple #[]) ∧ (∃ k', k ≤ k' ∧ k' ≤ s.length ∧ s.drop k' = res.1 ∧ RdX w' R (bs s) k' res.2.1 res.2.2 n O ∧ PosOk k' res.2.1 res.2.2) ∧ Kb (fun g => g = R) w w'
def atOf (R : Nat) (w : World) : Nat := (RowKit.intOf ((w.cell? ⟨R, 1, none⟩).getD undef)).toNat
theorem RdX.at0 {w : World} {R k : Nat} {S : ByteArray} {l c n : Int} {O : Value} (h : RdX w R S k l c n O) : atOf R w = k := by
  unfold atOf
  rw [h.c1]
  rfl

set_option maxHeartbeats 4000000 in
theorem skip_any (R : Nat) (s : List UInt8) (k0 : Nat) (l0 c0 n : Int) (O : Value) (w : World) (hb : RdX w R (bs s) k0 l0 c0 n O) (hk : k0 ≤ s.length) (hs : s.length ≤ 65536) (hp : PosOk k0 l0 c0) :
    Calls Tryd.prog 14 #[.pointer (some ⟨R, 0, none⟩)] w (SkRet R s k0 (skipP false (s.drop k0) (l0, c0)) n O w) := by
  obtain ⟨res, hres⟩ : ∃ res, skipP false (s.drop k0) (l0, c0) = res := ⟨_, rfl⟩
  rw [hres]
  have HRES := Lib.hid hres
  have hz := bs_size s
  have hget : ∀ k (h : k < (bs s).size), (bs s)[k] = bt s k := fun k h => bs_get s k h
  have KST := Lib.hid (fun (k : Nat) (l c : Int) W (h : RdX W R (bs s) k l c n O) (h1 : k < s.length) (h2 : PosOk k l c) => step_any R s k l c n O W h h1 hs h2.1 (by unfold PosOk at h2; omega) h2.2.2.1 (by unfold PosOk at h2; omega))
  obtain ⟨S, hS⟩ : ∃ S, bs s = S := ⟨_, rfl⟩
  have HS := Lib.hid hS
  rw [hS] at hb hz hget KST
  have HG := Lib.hid hget
  have HB := Lib.hid hb
  clear hb hget hS hres
  go_enter Tryd.func14, Tryd.ntmps14
  go_wp2
  go_loopw [] (fun wr => ∃ (k : Nat) (l c : Int), k0 ≤ k ∧ k ≤ s.length ∧ Hid (PosOk k l c) ∧ Hid (RdX wr R S k l c n O) ∧ Hid (skipP false (s.drop k) (l, c) = res) ∧ Hid (Kb (fun g => g = R) w wr)) (fun wr => s.length - atOf R wr)
  case atStart => exact ⟨k0, l0, c0, Nat.le_refl _, hk, Lib.hid hp, HB, HRES, Lib.hid (Kb.refl _ _)⟩
  case round =>
    obtain ⟨k, l, c, hk0, hkl, HP, HX, HV, HK⟩ := hrel
    have c0' := HX.out.c0
    have c1' := HX.out.c1
    by_cases hlt : k < s.length
    · have hlt' : k < S.size := by omega
      have hd1 : decide ((k : Int) < (s.length : Int)) = true := by simp; omega
      have hg := HG.out k hlt'
      have HGX := Lib.hid hg
      have KSP := Lib.hid (fun W => sep_any S[k] W)
      clear hg
      cases hsep : sepB S[k] with
      | true =>
        have ksp := KSP.out
        rw [hsep] at ksp
        have KS2 := Lib.hid ksp
        have HN := Lib.hid (show skipP false (s.drop (k + 1)) (stepP (bt s k) (l, c)) = res by
          rw [← skip_sep hlt (by rw [← HGX.out]; exact hsep)]; exact HV.out)
        clear ksp KSP hsep
        go_wp2_with fail
        go_quiet (fail)
        go_wp2_with fail
        go_quiet (fail)
        go_wp2_with fail
        refine (KS2.out _).mono ?_
        rintro e w2 ⟨rfl, e2⟩
        subst w2
        go_wp2_with fail
        refine (KST.out k l c _ (HX.out.up (by repeat (first | exact Below.refl _ _ | refine below_dN ?_ _ | refine Below.drew ?_ | refine Below.alloc ?_ (by first | omega | (simp; done) | (simp; omega)) _ | refine Below.setCell ?_ (by first | omega | (simp; done) | (simp; omega)) _ | refine below_step (by assumption) (by first | omega | (simp; done) | (simp; omega)) ?_))) hlt HP.out).mono ?_
        rintro e w3 ⟨rfl, hx3, hk3⟩
        have HX3 := Lib.hid hx3
        have HK3 := Lib.hid hk3
        clear hx3 hk3
        go_wp2
        go_roundw
        case rel => exact ⟨k + 1, _, _, by omega, by omega, Lib.hid (HP.out.step (bt s k)), HX3, HN, Lib.hid ((HK.out.up (by repeat (first | exact Below.refl _ _ | refine below_dN ?_ _ | refine Below.drew ?_ | refine Below.alloc ?_ (by first | omega | (simp; done) | (simp; omega)) _ | refine Below.setCell ?_ (by first | omega | (simp; done) | (simp; omega)) _ | refine below_step (by assumption) (by first | omega | (simp; done) | (simp; omega)) ?_))).trans HK3.out)⟩
        case measure =>
          have m1 := HX3.out.at0
          have m2 := HX.out.at0
          omega
      | false =>
        have ksp := KSP.out
        rw [hsep] at ksp
        have KS2 := Lib.hid ksp
        by_cases h59 : S[k].toNat = 59
        · have h59' : S[k] = 59 := UInt8.toNat_inj.1 h59
          have HN := Lib.hid (show skipP true (s.drop k) (l, c) = res by
            rw [← skip_com hlt (by rw [← HGX.out]; exact h59')]; exact HV.out)
          have HC := Lib.hid (show bt s k ≠ 10 by rw [← HGX.out, h59']; decide)
          have H59 := Lib.hid h59
          clear ksp KSP hsep h59' h59
          go_wp2_with fail
          go_quiet (fail)
          go_wp2_with fail
          go_quiet (fail)
          go_wp2_with fail
          refine (KS2.out _).mono ?_
          rintro e w2 ⟨rfl, e2⟩
          subst w2
          have hd3 : ((S[k].toNat : Nat) : Int) = 59 := by have := H59.out; omega
          go_wp2
          clear hd1 hd3 c0' c1'
          obtain ⟨wt, rfl⟩ : ∃ wt : World, wt = wr := ⟨_, rfl⟩
          have HXT := HX
          have HPT := HP
          go_loopw [] (fun wr => ∃ (k1 : Nat) (l1 c1 : Int), k ≤ k1 ∧ k1 ≤ s.length ∧ Hid (PosOk k1 l1 c1) ∧ Hid (RdX wr R S k1 l1 c1 n O) ∧ Hid (skipP true (s.drop k1) (l1, c1) = res) ∧ Hid (Kb (fun g => g = R) w wr)) (fun wr => s.length - atOf R wr)
          case atStart => exact ⟨k, l, c, Nat.le_refl _, hkl, HP, Lib.hid (HX.out.up (by repeat (first | exact Below.refl _ _ | refine below_dN ?_ _ | refine Below.drew ?_ | refine Below.alloc ?_ (by first | omega | (simp; done) | (simp; omega)) _ | refine Below.setCell ?_ (by first | omega | (simp; done) | (simp; omega)) _ | refine below_step (by assumption) (by first | omega | (simp; done) | (simp; omega)) ?_))), HN, Lib.hid (HK.out.up (by repeat (first | exact Below.refl _ _ | refine below_dN ?_ _ | refine Below.drew ?_ | refine Below.alloc ?_ (by first | omega | (simp; done) | (simp; omega)) _ | refine Below.setCell ?_ (by first | omega | (simp; done) | (simp; omega)) _ | refine below_step (by assumption) (by first | omega | (simp; done) | (simp; omega)) ?_)))⟩
          case round =>
            clear HX HP HV HK HN
            obtain ⟨k1, l1, c1, hk1, hkl1, HP, HX, HV, HK⟩ := hrel
            have d0' := HX.out.c0
            have d1' := HX.out.c1
            by_cases hlt1 : k1 < s.length
            · have hlt1' : k1 < S.size := by omega
              have hd1 : decide ((k1 : Int) < (s.length : Int)) = true := by simp; omega
              have hg := HG.out k1 hlt1'
              have HGY := Lib.hid hg
              clear hg
              by_cases h10 : S[k1].toNat = 10
              · have h10' : S[k1] = 10 := UInt8.toNat_inj.1 h10
                have HN := Lib.hid (show skipP false (s.drop k1) (l1, c1) = res by
                  rw [← skip_out hlt1 (by rw [← HGY.out]; exact h10')]; exact HV.out)
                have hlk : k < k1 := by
                  rcases Nat.lt_or_ge k k1 with h | h
                  · exact h
                  · obtain rfl : k = k1 := by omega
                    exact absurd (by rw [← HGY.out]; exact h10') HC.out
                have hd2 : ((S[k1].toNat : Nat) : Int) = 10 := by omega
                clear h10' h10
                go_wp2_with fail
                go_quiet (fail)
                go_wp2
                go_roundw
                case rel => exact ⟨k1, l1, c1, by omega, hkl1, HP, Lib.hid (HX.out.up (by repeat (first | exact Below.refl _ _ | refine below_dN ?_ _ | refine Below.drew ?_ | refine Below.alloc ?_ (by first | omega | (simp; done) | (simp; omega)) _ | refine Below.setCell ?_ (by first | omega | (simp; done) | (simp; omega)) _ | refine below_step (by assumption) (by first | omega | (simp; done) | (simp; omega)) ?_))), HN, Lib.hid (HK.out.up (by repeat (first | exact Below.refl _ _ | refine below_dN ?_ _ | refine Below.drew ?_ | refine Below.alloc ?_ (by first | omega | (simp; done) | (simp; omega)) _ | refine Below.setCell ?_ (by first | omega | (simp; done) | (simp; omega)) _ | refine below_step (by assumption) (by first | omega | (simp; done) | (simp; omega)) ?_)))⟩
                case measure =>
                  have m1 := RdX.at0 (w := wr.drewN nq) (HX.out.up (below_dN (Below.refl _ _) nq))
                  have m2 := HXT.out.at0
                  omega
              · have HN := Lib.hid (show skipP true (s.drop (k1 + 1)) (stepP (bt s k1) (l1, c1)) = res by
                  rw [← skip_in hlt1 (by rw [← HGY.out]; exact fun e => h10 (by rw [e]; rfl))]; exact HV.out)
                have hd2 : ¬ ((S[k1].toNat : Nat) : Int) = 10 := by omega
                clear h10
                go_wp2_with fail
                go_quiet (fail)
                go_wp2_with fail
                refine (KST.out k1 l1 c1 _ (HX.out.up (by repeat (first | exact Below.refl _ _ | refine below_dN ?_ _ | refine Below.drew ?_ | refine Below.alloc ?_ (by first | omega | (simp; done) | (simp; omega)) _ | refine Below.setCell ?_ (by first | omega | (simp; done) | (simp; omega)) _ | refine below_step (by assumption) (by first | omega | (simp; done) | (simp; omega)) ?_))) hlt1 HP.out).mono ?_
                rintro e w3 ⟨rfl, hx3, hk3⟩
                have HX3 := Lib.hid hx3
                have HK3 := Lib.hid hk3
                clear hx3 hk3
                go_wp2
                go_roundw
                case rel => exact ⟨k1 + 1, _, _, by omega, by omega, Lib.hid (HP.out.step (bt s k1)), HX3, HN, Lib.hid ((HK.out.up (by repeat (first | exact Below.refl _ _ | refine below_dN ?_ _ | refine Below.drew ?_ | refine Below.alloc ?_ (by first | omega | (simp; done) | (simp; omega)) _ | refine Below.setCell ?_ (by first | omega | (simp; done) | (simp; omega)) _ | refine below_step (by assumption) (by first | omega | (simp; done) | (simp; omega)) ?_))).trans HK3.out)⟩
                case measure =>
                  have m1 := HX3.out.at0
                  have m2 := HX.out.at0
                  omega
            · have hd1 : decide ((k1 : Int) < (s.length : Int)) = false := by simp; omega
              have HN := Lib.hid (show skipP false (s.drop k1) (l1, c1) = res by
                rw [← HV.out, List.drop_eq_nil_of_le (by omega)]; rfl)
              go_wp2_with fail
              go_quiet (fail)
              go_wp2
              go_roundw
              case rel => exact ⟨k1, l1, c1, by omega, hkl1, HP, Lib.hid (HX.out.up (by repeat (first | exact Below.refl _ _ | refine below_dN ?_ _ | refine Below.drew ?_ | refine Below.alloc ?_ (by first | omega | (simp; done) | (simp; omega)) _ | refine Below.setCell ?_ (by first | omega | (simp; done) | (simp; omega)) _ | refine below_step (by assumption) (by first | omega | (simp; done) | (simp; omega)) ?_))), HN, Lib.hid (HK.out.up (by repeat (first | exact Below.refl _ _ | refine below_dN ?_ _ | refine Below.drew ?_ | refine Below.alloc ?_ (by first | omega | (simp; done) | (simp; omega)) _ | refine Below.setCell ?_ (by first | omega | (simp; done) | (simp; omega)) _ | refine below_step (by assumption) (by first | omega | (simp; done) | (simp; omega)) ?_)))⟩
              case measure =>
                have m1 := RdX.at0 (w := wr.drewN nq) (HX.out.up (below_dN (Below.refl _ _) nq))
                have m2 := HXT.out.at0
                omega
        · have HN := Lib.hid (show skipP false (s.drop k) (l, c) = (s.drop k, (l, c)) from skip_tok hlt (by rw [← HGX.out]; exact hsep) (by rw [← HGX.out]; exact fun e => h59 (by rw [e]; rfl)) _)
          have hd3 : ¬ ((S[k].toNat : Nat) : Int) = 59 := by omega
          clear ksp KSP hsep
          go_wp2_with fail
          go_quiet (fail)
          go_wp2_with fail
          go_quiet (fail)
          go_wp2_with fail
          refine (KS2.out _).mono ?_
          rintro e w2 ⟨rfl, e2⟩
          subst w2
          go_wp2
          have HE := Lib.hid (show res = (s.drop k, (l, c)) by rw [← HV.out, HN.out])
          refine bodyPost_ret (results_none rfl _ _ _) rfl ⟨rfl, ⟨k, hk0, hkl, ?_, ?_, ?_⟩, ?_⟩
          · rw [HE.out]
          · rw [HE.out, HS.out]; exact HX.out.up (by repeat (first | exact Below.refl _ _ | refine below_dN ?_ _ | refine Below.drew ?_ | refine Below.alloc ?_ (by first | omega | (simp; done) | (simp; omega)) _ | refine Below.setCell ?_ (by first | omega | (simp; done) | (simp; omega)) _ | refine below_step (by assumption) (by first | omega | (simp; done) | (simp; omega)) ?_))
          · rw [HE.out]; exact HP.out
          · exact HK.out.up (by repeat (first | exact Below.refl _ _ | refine below_dN ?_ _ | refine Below.drew ?_ | refine Below.alloc ?_ (by first | omega | (simp; done) | (simp; omega)) _ | refine Below.setCell ?_ (by first | omega | (simp; done) | (simp; omega)) _ | refine below_step (by assumption) (by first | omega | (simp; done) | (simp; omega)) ?_))
    · have hd1 : decide ((k : Int) < (s.length : Int)) = false := by simp; omega
      go_wp2_with fail
      go_quiet (fail)
      go_wp2
      have HE := Lib.hid (show res = ([], (l, c)) by
        rw [← HV.out, List.drop_eq_nil_of_le (by omega)]; rfl)
      refine bodyPost_end (results_none rfl _ _ _) rfl ⟨rfl, ⟨k, hk0, hkl, ?_, ?_, ?_⟩, ?_⟩
      · rw [HE.out]; exact List.drop_eq_nil_of_le (by omega)
      · rw [HE.out, HS.out]; exact HX.out.up (by repeat (first | exact Below.refl _ _ | refine below_dN ?_ _ | refine Below.drew ?_ | refine Below.alloc ?_ (by first | omega | (simp; done) | (simp; omega)) _ | refine Below.setCell ?_ (by first | omega | (simp; done) | (simp; omega)) _ | refine below_step (by assumption) (by first | omega | (simp; done) | (simp; omega)) ?_))
      · rw [HE.out]; exact HP.out
      · exact HK.out.up (by repeat (first | exact Below.refl _ _ | refine below_dN ?_ _ | refine Below.drew ?_ | refine Below.alloc ?_ (by first | omega | (simp; done) | (simp; omega)) _ | refine Below.setCell ?_ (by first | omega | (simp; done) | (simp; omega)) _ | refine below_step (by assumption) (by first | omega | (simp; done) | (simp; omega)) ?_))
end Go.Proofs.YtebgaicapjpohaaDoor

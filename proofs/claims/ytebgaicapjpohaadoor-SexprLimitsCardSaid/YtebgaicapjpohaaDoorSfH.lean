/- The law SexprLimits, walked. -/
import Derived.Test.YtebgaicapjpohaaDoorSfF
import Derived.Test.YtebgaicapjpohaaDoorSfG
import Derived.Deep.DeepCutAuto
import Derived.Deep.CutBlock
namespace Go.Proofs.YtebgaicapjpohaaDoor
set_option linter.unusedSimpArgs false
set_option linter.unusedVariables false
open Go Go.RowKit
set_option linter.unusedVariables false

set_option maxRecDepth 20000 in
set_option maxHeartbeats 8000000 in
theorem sexprLimits_any (k more : Int) (w : World) (hk0 : 0 ≤ k) (hk1 : k ≤ 255) (hE : EnvS w) : Calls Tryd.prog 3 #[.int .u8 k, .int .i64 more] w fun e w' => e = .returned (.bool true) ∧ Below w.heap.size w w' := by
  have KA := Lib.hid (awake01_any w hE)
  have KC := Lib.hid (fun W => clip_any more W)
  obtain ⟨hm1, hm2⟩ := clip3_bd more
  obtain ⟨m, hm⟩ : ∃ m, clip3 more = m := ⟨_, rfl⟩
  rw [hm] at KC hm1 hm2
  clear hm hE
  go_enter Tryd.func3, Tryd.ntmps3
  go_wp2_with fail
  refine KA.out.mono ?_
  rintro e w1 ⟨rfl, hb1⟩
  have HB1 := Lib.hid hb1
  clear hb1
  go_wp2_with fail
  refine (KC.out w1).mono ?_
  rintro e w2 ⟨rfl, e2⟩
  subst w2
  go_upto_block 0 with fail
  obtain ⟨r, hr⟩ : ∃ r, k % 5 = r := ⟨_, rfl⟩
  have hr0 : 0 ≤ r ∧ r < 5 := by omega
  rw [hr]
  have HRK := Lib.hid hr
  clear hr
  have KRP := Lib.hid (fun s n W h1 h2 => repeated_any s n W h1 h2)
  go_cut [5, 6, 7, 8, 9, 10] (fun v5 v6 v7 v8 v9 v10 wx => ∃ T want l c, v5 = .string (bs T) ∧ v6 = .int .i64 want ∧ v7 = .int .i64 l ∧ v8 = .int .i64 c ∧ Hid (LimOk r T want l c) ∧ Hid (Below w.heap.size w wx))
  case first =>
    have hrs : r = 0 ∨ r = 1 ∨ r = 2 ∨ r = 3 ∨ r = 4 := by omega
    rcases hrs with rfl | rfl | rfl | rfl | rfl
    · obtain ⟨N, hN⟩ : ∃ N : Nat, 32 + m = (N : Int) := ⟨(32 + m).toNat, by omega⟩
      have hN2 : (32 + m).toNat = N := by omega
      have kr := KRP.out [40]
      rw [show bs [40] = ⟨#[40]⟩ from rfl] at kr
      have kq := KRP.out [41]
      rw [show bs [41] = ⟨#[41]⟩ from rfl] at kq
      obtain ⟨P1, hP1⟩ : ∃ P1, bs (repP [40] N) = P1 := ⟨_, rfl⟩
      obtain ⟨P2, hP2⟩ : ∃ P2, bs (repP [41] N) = P2 := ⟨_, rfl⟩
      have hs1 : P1.size ≤ 100 := by rw [← hP1, bs_size, repP_len]; simp; omega
      have hs2 : P2.size ≤ 100 := by rw [← hP2, bs_size, repP_len]; simp; omega
      have kr2 := fun W => kr N W (by simp; omega) (by omega)
      have kq2 := fun W => kq N W (by simp; omega) (by omega)
      rw [hP1] at kr2
      rw [hP2] at kq2
      have KR := Lib.hid kr2
      have KQ := Lib.hid kq2
      have HEQ := Lib.hid (show P1 ++ P2 = bs (limA m) by
        rw [← hP1, ← hP2, bs_app, ← hN2]
        rfl)
      clear kr kq kr2 kq2 KRP hN2 hP1 hP2
      by_cases hm0 : m ≤ 0
      · have HL := Lib.hid (limA_le hm1 hm0)
        go_wp2_with fail
        refine (KR.out _).mono ?_
        rintro e w3 ⟨rfl, hb3⟩
        have HB3 := Lib.hid (HB1.out.trans (hb3.mono HB1.out.size))
        clear hb3
        go_wp2_with fail
        refine (KQ.out _).mono ?_
        rintro e w4 ⟨rfl, hb4⟩
        have HB4 := Lib.hid (HB3.out.trans (hb4.mono HB3.out.size))
        clear hb4
        go_wp2
        go_meet
        exact ⟨_, _, _, _, by rw [HEQ.out], rfl, rfl, rfl, HL, HB4⟩
      · have HL := Lib.hid (limA_gt (by omega) hm2)
        go_wp2_with fail
        refine (KR.out _).mono ?_
        rintro e w3 ⟨rfl, hb3⟩
        have HB3 := Lib.hid (HB1.out.trans (hb3.mono HB1.out.size))
        clear hb3
        go_wp2_with fail
        refine (KQ.out _).mono ?_
        rintro e w4 ⟨rfl, hb4⟩
        have HB4 := Lib.hid (HB3.out.trans (hb4.mono HB3.out.size))
        clear hb4
        go_wp2
        go_meet
        exact ⟨_, _, _, _, by rw [HEQ.out], rfl, rfl, rfl, HL, HB4⟩
    · obtain ⟨N, hN⟩ : ∃ N : Nat, 4096 + m = (N : Int) := ⟨(4096 + m).toNat, by omega⟩
      have hN2 : (4096 + m).toNat = N := by omega
      have kr := KRP.out [97, 32]
      rw [show bs [97, 32] = ⟨#[97, 32]⟩ from rfl] at kr
      have KR := Lib.hid (fun W => kr N W (by simp; omega) (by omega))
      have HN2 := Lib.hid hN2
      clear kr KRP hN2
      by_cases hm0 : m ≤ 0
      · have HL := Lib.hid (limB_le hm1 hm0)
        go_wp2_with fail
        refine (KR.out _).mono ?_
        rintro e w3 ⟨rfl, hb3⟩
        have HB3 := Lib.hid (HB1.out.trans (hb3.mono HB1.out.size))
        clear hb3
        go_wp2
        go_meet
        exact ⟨_, _, _, _, rfl, rfl, rfl, rfl, by rw [← HN2.out]; exact HL, HB3⟩
      · have HL := Lib.hid (limB_gt (by omega) hm2)
        go_wp2_with fail
        refine (KR.out _).mono ?_
        rintro e w3 ⟨rfl, hb3⟩
        have HB3 := Lib.hid (HB1.out.trans (hb3.mono HB1.out.size))
        clear hb3
        go_wp2
        go_meet
        exact ⟨_, _, _, _, rfl, rfl, rfl, rfl, by rw [← HN2.out]; exact HL, HB3⟩
    · obtain ⟨N, hN⟩ : ∃ N : Nat, 32 + m = (N : Int) := ⟨(32 + m).toNat, by omega⟩
      have hN2 : (32 + m).toNat = N := by omega
      have kr := KRP.out [97]
      rw [show bs [97] = ⟨#[97]⟩ from rfl] at kr
      have KR := Lib.hid (fun W => kr N W (by simp; omega) (by omega))
      have HN2 := Lib.hid hN2
      clear kr KRP hN2
      by_cases hm0 : m ≤ 0
      · have HL := Lib.hid (limC_le hm1 hm0)
        go_wp2_with fail
        refine (KR.out _).mono ?_
        rintro e w3 ⟨rfl, hb3⟩
        have HB3 := Lib.hid (HB1.out.trans (hb3.mono HB1.out.size))
        clear hb3
        go_wp2
        go_meet
        exact ⟨_, _, _, _, rfl, rfl, rfl, rfl, by rw [← HN2.out]; exact HL, HB3⟩
      · have HL := Lib.hid (limC_gt (by omega) hm2)
        go_wp2_with fail
        refine (KR.out _).mono ?_
        rintro e w3 ⟨rfl, hb3⟩
        have HB3 := Lib.hid (HB1.out.trans (hb3.mono HB1.out.size))
        clear hb3
        go_wp2
        go_meet
        exact ⟨_, _, _, _, rfl, rfl, rfl, rfl, by rw [← HN2.out]; exact HL, HB3⟩
    · obtain ⟨N, hN⟩ : ∃ N : Nat, 65536 + m = (N : Int) := ⟨(65536 + m).toNat, by omega⟩
      have hN2 : (65536 + m).toNat = N := by omega
      have kr := KRP.out [32]
      rw [show bs [32] = ⟨#[32]⟩ from rfl] at kr
      have KR := Lib.hid (fun W => kr N W (by simp; omega) (by omega))
      have HN2 := Lib.hid hN2
      clear kr KRP hN2
      by_cases hm0 : m ≤ 0
      · have HL := Lib.hid (limD_le hm1 hm0)
        go_wp2_with fail
        refine (KR.out _).mono ?_
        rintro e w3 ⟨rfl, hb3⟩
        have HB3 := Lib.hid (HB1.out.trans (hb3.mono HB1.out.size))
        clear hb3
        go_wp2
        go_meet
        exact ⟨_, _, _, _, rfl, rfl, rfl, rfl, by rw [← HN2.out]; exact HL, HB3⟩
      · have HL := Lib.hid (limD_gt (by omega) hm2)
        go_wp2_with fail
        refine (KR.out _).mono ?_
        rintro e w3 ⟨rfl, hb3⟩
        have HB3 := Lib.hid (HB1.out.trans (hb3.mono HB1.out.size))
        clear hb3
        go_wp2
        go_meet
        exact ⟨_, _, _, _, rfl, rfl, rfl, rfl, by rw [← HN2.out]; exact HL, HB3⟩
    · clear KRP
      rcases seven hm1 hm2 with rfl | rfl | rfl | rfl | rfl | rfl | rfl
      · have HL := Lib.hid (limE_le 51 (by decide))
        go_wp2
        go_meet
        exact ⟨45 :: numT 51, _, _, _, rfl, rfl, rfl, rfl, HL, Lib.hid (by have := HB1.out; exact this.alloc this.size _)⟩
      · have HL := Lib.hid (limE_le 52 (by decide))
        go_wp2
        go_meet
        exact ⟨45 :: numT 52, _, _, _, rfl, rfl, rfl, rfl, HL, Lib.hid (by have := HB1.out; exact this.alloc this.size _)⟩
      · have HL := Lib.hid (limE_le 53 (by decide))
        go_wp2
        go_meet
        exact ⟨45 :: numT 53, _, _, _, rfl, rfl, rfl, rfl, HL, Lib.hid (by have := HB1.out; exact this.alloc this.size _)⟩
      · have HL := Lib.hid (limE_le 54 (by decide))
        go_wp2
        go_meet
        exact ⟨45 :: numT 54, _, _, _, rfl, rfl, rfl, rfl, HL, Lib.hid (by have := HB1.out; exact this.alloc this.size _)⟩
      · have HL := Lib.hid (limE_gt 55 (by decide))
        go_wp2
        go_meet
        exact ⟨45 :: numT 55, _, _, _, rfl, rfl, rfl, rfl, HL, Lib.hid (by have := HB1.out; exact this.alloc this.size _)⟩
      · have HL := Lib.hid (limE_gt 56 (by decide))
        go_wp2
        go_meet
        exact ⟨45 :: numT 56, _, _, _, rfl, rfl, rfl, rfl, HL, Lib.hid (by have := HB1.out; exact this.alloc this.size _)⟩
      · have HL := Lib.hid (limE_gt 57 (by decide))
        go_wp2
        go_meet
        exact ⟨45 :: numT 57, _, _, _, rfl, rfl, rfl, rfl, HL, Lib.hid (by have := HB1.out; exact this.alloc this.size _)⟩
  case rest =>
    obtain ⟨T, want, l, c, rfl, rfl, rfl, rfl, HL, HB⟩ := hcut
    obtain ⟨hT, hl⟩ := HL.out
    have KR := Lib.hid (read_any T wc hT)
    rcases hl with ⟨rfl, L, hrd, hor⟩ | ⟨hne, hrd⟩
    · have HRD := Lib.hid hrd
      have HOR := Lib.hid hor
      clear hrd hor
      go_wp2_with fail
      refine KR.out.mono ?_
      intro e w9 hret
      obtain ⟨hb9, hmm⟩ := hret
      rw [HRD.out] at hmm
      obtain ⟨V, rfl, A, cap, rfl, _, _, _⟩ := hmm
      have HB9 := Lib.hid (HB.out.trans (hb9.mono HB.out.size))
      have hr := HRK.out
      clear hb9 HRK
      by_cases h0 : 0 < L.length
      · have hd : decide ((0 : Int) < (L.length : Int)) = true := decide_eq_true (by omega)
        clear HOR
        go_wp2
        refine bodyPost_ret (v := .bool true) (by simp [results, Tryd.results3, go_sem, ↓IntWalk.iteOmega, *]) rfl ⟨rfl, HB9.out⟩
      · have hd : decide ((0 : Int) < (L.length : Int)) = false := decide_eq_false (by omega)
        have h3 : r = 3 := HOR.out.resolve_left h0
        subst h3
        go_wp2
        refine bodyPost_ret (v := .bool true) (by simp [results, Tryd.results3, go_sem, ↓IntWalk.iteOmega, *]) rfl ⟨rfl, HB9.out⟩
    · have HRD := Lib.hid hrd
      have KN := Lib.hid (fun W => num_er want hne W)
      clear hrd
      go_wp2_with fail
      refine KR.out.mono ?_
      intro e w9 hret
      obtain ⟨hb9, hmm⟩ := hret
      rw [HRD.out] at hmm
      obtain ⟨rfl, _⟩ := hmm
      have HB9 := Lib.hid (HB.out.trans (hb9.mono HB.out.size))
      rw [erV_ne hne]
      clear hb9
      go_wp2_with fail
      refine (KN.out _).mono ?_
      rintro e w8 ⟨rfl, e8⟩
      subst w8
      go_wp2
      refine bodyPost_ret (v := .bool true) (by simp [results, Tryd.results3, go_sem, ↓IntWalk.iteOmega, *]) rfl ⟨rfl, HB9.out⟩
end Go.Proofs.YtebgaicapjpohaaDoor

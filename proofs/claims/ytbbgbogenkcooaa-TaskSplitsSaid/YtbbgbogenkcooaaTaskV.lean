/- The law TaskSplits. -/
import Derived.Test.YtbbgbogenkcooaaTaskT
import Derived.Test.YtbbgbogenkcooaaTaskX
import Derived.Test.YtbbgbogenkcooaaApp
import Derived.Test.YtbbgbogenkcooaaTaskU
namespace Go.Proofs.Ytbbgbogenkcooaa
set_option linter.unusedSimpArgs false
set_option linter.unusedVariables false
open Go.RowKit
set_option linter.unusedVariables false


set_option maxRecDepth 4000 in
set_option maxHeartbeats 8000000 in
theorem splits_zero (t : Tsk) (p : Lies) (s : List Int) (A : Option Addr) (c : Nat) (pa pb : List Int) (P0 P1 : Option Addr) (c0 c1 : Nat) (w : World) (ht : TaskAt w w.heap.size t p) (hs : IntsAt w w.heap.size A s) (hp0 : IntsAt w w.heap.size P0 pa) (hp1 : IntsAt w w.heap.size P1 pb) (hn0 : P0 = none → c0 = 0) (hn1 : P1 = none → c1 = 0) (hle : pa.length + pb.length ≤ 200) (hC : (runR t s pa).2.2 = 0) (hD : (runR t (runR t s pa).1 pb).2.2 = 0) :
    Calls Try.prog 13 #[TaskV t p, .slice A s.length c, .agg #[.slice P0 pa.length c0, .slice P1 pb.length c1]] w fun e w' => e = .returned (.bool true) ∧ Below w.heap.size w w' := by
  have k0 := fun w1 => awake05_any w1
  have k1 := fun w1 (hb : Below w.heap.size w w1) => lawlarge_any t p w1 (ht.up hb)
  have k2 := fun w1 B d (hb : Below w.heap.size w w1) (hl : IntsAt w1 w1.heap.size B (pa ++ pb)) => trun_any t p s (pa ++ pb) A B c d w1 (ht.up hb) (hs.up hb) hl
  have k3 := fun w1 (hb : Below w.heap.size w w1) => trun_any t p s pa A P0 c c0 w1 (ht.up hb) (hs.up hb) (hp0.up hb)
  have Hp0 := Lib.hid (fun X (hb : Below w.heap.size w X) => ints_srcAt (c := c0) (hp0.keep (w' := X) (fun _ hp => hb.cell hp) hb.size) hn0)
  have Hp1 := Lib.hid (fun X (hb : Below w.heap.size w X) => ints_srcAt (c := c1) (hp1.keep (w' := X) (fun _ hp => hb.cell hp) hb.size) hn1)
  have l0 := hp0.len
  have l1 := hp1.len
  have ls := hs.len
  clear hn0 hn1
  unfold TrunRet at k2 k3
  have k4 := fun w1 B d (hb : Below w.heap.size w w1) (hl : IntsAt w1 w1.heap.size B (runR t s pa).1) => trun_any t p (runR t s pa).1 pb B P1 d c1 w1 (ht.up hb) hl (hp1.up hb)
  have k5 := fun w1 B d op (hb : Below w.heap.size w w1) (hl : IntsAt w1 w1.heap.size B (runR t s pa).1) => tapply_any t p (runR t s pa).1 B d op w1 (ht.up hb) hl
  unfold TrunRet at k4
  have hG := split_good hle hC
  obtain ⟨r1, hr1⟩ : ∃ r, r = runR t (runR t s pa).1 pb := ⟨_, rfl⟩
  rw [← hr1] at hG hD k4
  clear hr1
  obtain ⟨r0, hr0⟩ : ∃ r, r = runR t s pa := ⟨_, rfl⟩
  obtain ⟨rw, hrw⟩ : ∃ r, r = runR t s (pa ++ pb) := ⟨_, rfl⟩
  rw [← hr0] at hG hC k3 k4 k5
  rw [← hrw] at hG k2
  clear hr0 hrw
  obtain ⟨L0, N0, C0⟩ := r0
  obtain ⟨LW, NW, CW⟩ := rw
  obtain ⟨L1, N1, C1⟩ := r1
  obtain ⟨q1, q2, q3, q4, q5, q6, q7, q8, q9⟩ := hG
  dsimp only at hC hD k2 k3 k4 k5 q1 q2 q3 q4 q5 q6 q7 q8 q9
  subst hC q1 q2
  subst hD
  obtain rfl := q3 rfl
  clear q3
  have kn := num_any 0
  simp only [erV_0, List.length_append] at k2 k3 k4 kn
  have Hq := Lib.hid q9
  have Hc := Lib.hid (chk0 q8)
  clear q8 q9
  obtain ⟨av, ai, ag, ao, cv, ci, cg, co⟩ := p
  unfold TaskV at *
  dsimp only at *
  obtain ⟨inf, hi, iz0, iz1, iz2⟩ := info_parts infoI
  have hpb0 : pa.length + pb.length ≤ 200 := hle
  go_enter Try.func13, Try.ntmps13
  go_wp2_with fail
  refine (k1 _ (by repeat (first | exact Below.refl _ _ | refine below_dN ?_ _ | refine Below.drew ?_ | refine Below.alloc ?_ (by first | omega | (simp; done) | (simp; omega)) _ | refine Below.setCell ?_ (by first | omega | (simp; done) | (simp; omega)) _ | refine below_step (by assumption) (by first | omega | (simp; done) | (simp; omega)) ?_))).mono ?_
  rintro e w1 ⟨⟨B, rfl⟩, hb1⟩
  obtain ⟨hc1, hf1, hz1, hlt1, hle1⟩ := cellsIf hb1 (by (try simp); exact rfl)
  have hbx1 : Boxed w1 w.heap.size t ⟨av, ai, ag, ao, cv, ci, cg, co⟩ := Boxed.up (by constructor <;> first | (simp; done) | (simp; omega)) hb1
  have e01 : w1.cell? ⟨w.heap.size + 1, 0, none⟩ = some (.slice P0 pa.length c0) := (hb1.cell (p := ⟨w.heap.size + 1, 0, none⟩) (by first | (simp; done) | (simp; omega))).trans (by simp)
  have e02 : w1.cell? ⟨w.heap.size + 1, 1, none⟩ = some (.slice P1 pb.length c1) := (hb1.cell (p := ⟨w.heap.size + 1, 1, none⟩) (by first | (simp; done) | (simp; omega))).trans (by simp)
  have hs1 : w.heap.size + 2 ≤ w1.heap.size := by first | (simpa using hz1) | omega
  have hbw1 : Below w.heap.size w w1 := by repeat (first | exact Below.refl _ _ | refine below_dN ?_ _ | refine Below.drew ?_ | refine Below.alloc ?_ (by first | omega | (simp; done) | (simp; omega)) _ | refine Below.setCell ?_ (by first | omega | (simp; done) | (simp; omega)) _ | refine below_step (by assumption) (by first | omega | (simp; done) | (simp; omega)) ?_)
  cases B
  case true =>
    go_wp2_with fail; refine (k0 _).mono ?_; rintro e w2 ⟨rfl, hb2⟩; obtain ⟨hc2, hf2, hz2, hlt2, hle2⟩ := cellsIf hb2 (by (try simp); exact rfl); (try have : w.heap.size < w2.heap.size := (by omega)); (try have : w.heap.size < w2.heap.size + 1 := (by omega)); (try have : w.heap.size < w2.heap.size + 1 + 1 := (by omega)); (try have : w.heap.size + 1 < w2.heap.size := (by omega)); (try have : w.heap.size + 1 < w2.heap.size + 1 := (by omega)); (try have : w.heap.size + 1 < w2.heap.size + 1 + 1 := (by omega)); (try have : w.heap.size + 1 + 1 < w2.heap.size := (by omega)); (try have : w.heap.size + 1 + 1 < w2.heap.size + 1 := (by omega)); (try have : w.heap.size + 1 + 1 < w2.heap.size + 1 + 1 := (by omega)); (try have : w1.heap.size < w2.heap.size := (by omega)); (try have : w1.heap.size < w2.heap.size + 1 := (by omega)); (try have : w1.heap.size < w2.heap.size + 1 + 1 := (by omega)); (try have : w1.heap.size + 1 < w2.heap.size := (by omega)); (try have : w1.heap.size + 1 < w2.heap.size + 1 := (by omega)); (try have : w1.heap.size + 1 < w2.heap.size + 1 + 1 := (by omega)); (try have : w1.heap.size + 1 + 1 < w2.heap.size := (by omega)); (try have : w1.heap.size + 1 + 1 < w2.heap.size + 1 := (by omega)); (try have : w1.heap.size + 1 + 1 < w2.heap.size + 1 + 1 := (by omega))
    go_wp2
    go_ret
    exact ⟨rfl, by repeat (first | exact Below.refl _ _ | refine below_dN ?_ _ | refine Below.drew ?_ | refine Below.alloc ?_ (by first | omega | (simp; done) | (simp; omega)) _ | refine Below.setCell ?_ (by first | omega | (simp; done) | (simp; omega)) _ | refine below_step (by assumption) (by first | omega | (simp; done) | (simp; omega)) ?_)⟩
  go_wp2_with fail; refine (k0 _).mono ?_; rintro e w2 ⟨rfl, hb2⟩; obtain ⟨hc2, hf2, hz2, hlt2, hle2⟩ := cellsIf hb2 (by (try simp); exact rfl); (try have : w.heap.size < w2.heap.size := (by omega)); (try have : w.heap.size < w2.heap.size + 1 := (by omega)); (try have : w.heap.size < w2.heap.size + 1 + 1 := (by omega)); (try have : w.heap.size + 1 < w2.heap.size := (by omega)); (try have : w.heap.size + 1 < w2.heap.size + 1 := (by omega)); (try have : w.heap.size + 1 < w2.heap.size + 1 + 1 := (by omega)); (try have : w.heap.size + 1 + 1 < w2.heap.size := (by omega)); (try have : w.heap.size + 1 + 1 < w2.heap.size + 1 := (by omega)); (try have : w.heap.size + 1 + 1 < w2.heap.size + 1 + 1 := (by omega)); (try have : w1.heap.size < w2.heap.size := (by omega)); (try have : w1.heap.size < w2.heap.size + 1 := (by omega)); (try have : w1.heap.size < w2.heap.size + 1 + 1 := (by omega)); (try have : w1.heap.size + 1 < w2.heap.size := (by omega)); (try have : w1.heap.size + 1 < w2.heap.size + 1 := (by omega)); (try have : w1.heap.size + 1 < w2.heap.size + 1 + 1 := (by omega)); (try have : w1.heap.size + 1 + 1 < w2.heap.size := (by omega)); (try have : w1.heap.size + 1 + 1 < w2.heap.size + 1 := (by omega)); (try have : w1.heap.size + 1 + 1 < w2.heap.size + 1 + 1 := (by omega))
  have hbx2 := hbx1.up hb2
  have e03 := (hb2.cell (p := ⟨w.heap.size + 1, 0, none⟩) (by show w.heap.size + 1 < _; omega)).trans e01
  have e04 := (hb2.cell (p := ⟨w.heap.size + 1, 1, none⟩) (by show w.heap.size + 1 < _; omega)).trans e02
  have hbw2 : Below w.heap.size w w2 := hbw1.trans (hb2.mono (by omega))
  have hs2 : w.heap.size + 2 ≤ w2.heap.size := by have := hb2.size; omega
  obtain ⟨z0, y0, y1, y2, y3⟩ := id hbx2
  dsimp only at y0 y1 y2 y3
  have g7 : w.heap.size < w2.heap.size := by omega
  have g8 : w.heap.size + 1 < w2.heap.size := by omega
  clear hc1 hf1 hz1 hlt1 hle1 hc2 hf2 hz2 hlt2 hle2 hbx1 e01 e02 hb1 hb2
  go_wp2_with fail
  go_region_held3 (fun w' => w'.cell? ⟨w.heap.size, 0, none⟩ = some (.slice av t.vars.length cv) ∧ w'.cell? ⟨w.heap.size, 1, none⟩ = some (.slice ai t.init.length ci) ∧ w'.cell? ⟨w.heap.size, 2, none⟩ = some (.slice ag t.goal.length cg) ∧ w'.cell? ⟨w.heap.size, 3, none⟩ = some (.slice ao t.ops.length co) ∧ w'.cell? ⟨w.heap.size + 1, 0, none⟩ = some (.slice P0 pa.length c0) ∧ w'.cell? ⟨w.heap.size + 1, 1, none⟩ = some (.slice P1 pb.length c1)) (first | (refine ⟨?_, ?_, ?_, ?_, ?_, ?_⟩ <;> (first | assumption | exact ((show Below w2.heap.size w2 _ by first | assumption | repeat (first | exact Below.refl _ _ | refine below_dN ?_ _ | refine Below.drew ?_ | refine Below.alloc ?_ (by first | omega | (simp; done) | (simp; omega)) _ | refine Below.setCell ?_ (by first | omega | (simp; done) | (simp; omega)) _ | refine below_step (by assumption) (by first | omega | (simp; done) | (simp; omega)) ?_)).cell g7).trans (by assumption) | exact ((show Below w2.heap.size w2 _ by first | assumption | repeat (first | exact Below.refl _ _ | refine below_dN ?_ _ | refine Below.drew ?_ | refine Below.alloc ?_ (by first | omega | (simp; done) | (simp; omega)) _ | refine Below.setCell ?_ (by first | omega | (simp; done) | (simp; omega)) _ | refine below_step (by assumption) (by first | omega | (simp; done) | (simp; omega)) ?_)).cell g8).trans (by assumption))) | go_keep) (first | ((refine step_append_src (by rfl) _ _ 22 (by rfl) w.heap.size 3 inf (.int .i64 0) 1 8 undI hi iz0 iz1 iz2 rfl (by decide) (.slice (some ⟨w2.heap.size, 0, none⟩) 0 0) 0 [] (by rfl) (own_drew (World.ownsRow_made w2 #[] 0 (by omega) (by simp [maxLen]) rfl)) P0 pa.length c0 _ (by rfl) (Hp0.out _ (by repeat (first | exact Below.refl _ _ | refine below_dN ?_ _ | refine Below.drew ?_ | refine Below.alloc ?_ (by first | omega | (simp; done) | (simp; omega)) _ | refine Below.setCell ?_ (by first | omega | (simp; done) | (simp; omega)) _ | refine below_step (by assumption) (by first | omega | (simp; done) | (simp; omega)) ?_))) (by unfold maxLen; omega) (by omega) (by first | omega | (simp; omega)) ?_); intro v3 w3 hown3 hgrow3 hat3; go_loud (have hb3 : Below w2.heap.size w2 w3 := Below.grown (show Below w2.heap.size w2 _ by repeat (first | exact Below.refl _ _ | refine below_dN ?_ _ | refine Below.drew ?_ | refine Below.alloc ?_ (by first | omega | (simp; done) | (simp; omega)) _ | refine Below.setCell ?_ (by first | omega | (simp; done) | (simp; omega)) _ | refine below_step (by assumption) (by first | omega | (simp; done) | (simp; omega)) ?_)) hgrow3 (by simp) (fun k hk => Nat.le_of_eq (own_some hk).symm)); go_loud (have hbw3 : Below w.heap.size w w3 := hbw2.trans (hb3.mono (by omega))); go_loud (have hs3 := hb3.size); go_loud (simp only [Nat.zero_add, List.nil_append] at hown3)) | (refine step_append_src (by rfl) _ _ 22 (by rfl) w.heap.size 3 inf (.int .i64 0) 1 8 undI hi iz0 iz1 iz2 rfl (by decide) v3 pa.length _ (by rfl) hown3 P1 pb.length c1 _ (by rfl) (Hp1.out _ hbw3) (by unfold maxLen; omega) (by omega) (by omega) ?_; intro v4 w4 hown4 hgrow4 hat4; go_loud (have hb4 : Below w2.heap.size w2 w4 := hb3.grown hgrow4 (by omega) (fun k hk => own_or hat3 hk (Nat.le_refl _) (by simp))); go_loud (have hbw4 : Below w.heap.size w w4 := hbw2.trans (hb4.mono (by omega))); go_loud (obtain ⟨A4, c4, rfl, hA4, hg4⟩ := own_got1 (l := pa ++ pb) (by unfold ic; rw [List.map_append]; exact hown4) (by simp) (by simp; omega))) | (go_at_call 42; refine (k2 _ _ _ hbw4 hg4).mono ?_; rintro e w5 ⟨⟨v5, rfl, A5, c5, rfl, _, g5⟩, hb5⟩; have hbw5 : Below w2.heap.size w2 w5 := hb4.trans (hb5.mono hb4.size)))
  obtain ⟨hc5, hf5, hz5, hlt5, hle5⟩ := cellsIf hbw5 rfl
  have hbx5 := hbx2.up hbw5
  have hB5 : Below w.heap.size w w5 := hbw2.trans (hbw5.mono (by omega))
  have hs5 : w.heap.size + 2 ≤ w5.heap.size := by omega
  clear hown3 hgrow3 hat3 hb3 hbw3 hs3 hgrow4 hat4 hb4 hbw4 hA4 hg4 hb5 z0
  go_wp2_with fail
  refine (k3 _ (by repeat (first | exact Below.refl _ _ | refine below_dN ?_ _ | refine Below.drew ?_ | refine Below.alloc ?_ (by first | omega | (simp; done) | (simp; omega)) _ | refine Below.setCell ?_ (by first | omega | (simp; done) | (simp; omega)) _ | refine below_step (by assumption) (by first | omega | (simp; done) | (simp; omega)) ?_))).mono ?_
  rintro e w6 ⟨⟨v6, rfl, A6, c6, rfl, _, g6⟩, hb6⟩
  obtain ⟨hc6, hf6, hz6, hlt6, hle6⟩ := cellsIf hb6 (by (try simp); exact rfl)
  have hbx6 := hbx5.up hb6
  have hB6 : Below w.heap.size w w6 := hB5.trans (hb6.mono (by omega))
  have f50 := (hbw5.cell (p := ⟨w.heap.size + 1, 1, none⟩) g8).trans e04
  have f60 := (hb6.cell (p := ⟨w.heap.size + 1, 1, none⟩) (by show w.heap.size + 1 < _; omega)).trans f50
  go_wp2_with fail
  refine (k4 _ _ _ hB6 g6).mono ?_
  rintro e w7 ⟨⟨v7, rfl, A7, c7, rfl, _, g7'⟩, hb7⟩
  obtain ⟨hc7, hf7, hz7, hlt7, hle7⟩ := cellsIf hb7 (by (try simp); exact rfl)
  have hbx7 := hbx6.up hb7
  have hB7 : Below w.heap.size w w7 := hB6.trans (hb7.mono (by have := hb6.size; omega))
  go_wp2_with fail
  refine (kn _).mono ?_
  rintro e w8 ⟨rfl, rfl⟩
  go_wp2_with fail
  refine (kn _).mono ?_
  rintro e w8 ⟨rfl, rfl⟩
  have k6 := fun w1 (hb : Below w7.heap.size w7 w1) => bints_any LW LW A5 A7 c5 c7 w1 (((g5.up hb6).up hb7).up hb) (g7'.up hb)
  go_wp2_with fail
  refine (k6 _ (by repeat (first | exact Below.refl _ _ | refine below_dN ?_ _ | refine Below.drew ?_ | refine Below.alloc ?_ (by first | omega | (simp; done) | (simp; omega)) _ | refine Below.setCell ?_ (by first | omega | (simp; done) | (simp; omega)) _ | refine below_step (by assumption) (by first | omega | (simp; done) | (simp; omega)) ?_))).mono ?_
  rintro e w8 ⟨rfl, hb8⟩
  obtain ⟨hc8, hf8, hz8, hlt8, hle8⟩ := cellsIf hb8 (by (try simp); exact rfl)
  have hbxl : Boxed w8 w.heap.size t ⟨av, ai, ag, ao, cv, ci, cg, co⟩ := hbx7.up hb8
  have hBl : Below w.heap.size w w8 := hB7.trans (hb8.mono hB7.size)
  have gl : IntsAt w8 w8.heap.size A6 L0 := (g6.up hb7).up hb8
  have l4 := ht.ops.len
  have ll := gl.len
  obtain ⟨z0, y0, y1, y2, y3⟩ := id hbxl
  dsimp only at y0 y1 y2 y3
  go_upto_region 10 with fail
  go_cut [104, 105] (fun m i wx => ∃ M : Nat, M ≤ t.ops.length ∧ m = .int .i64 M ∧ i = .int .i64 0 ∧ Below w8.heap.size w8 wx)
  case first =>
    by_cases hm : (20 : Int) < (t.ops.length : Int)
    · go_wp2; go_meet; exact ⟨20, by omega, rfl, rfl, Below.refl _ _⟩
    · go_wp2; go_meet; exact ⟨t.ops.length, by omega, rfl, rfl, Below.refl _ _⟩
  case rest =>
    obtain ⟨M, hM, rfl, rfl, hbm⟩ := hcut
    clear z0 y0 y1 y2 y3
    go_wp2
    go_loopw [105] (fun i wr => ∃ k : Nat, k ≤ M ∧ i = .int .i64 k ∧ Below w8.heap.size w8 wr) (fun i _ => M - (intOf i).toNat)
    case atStart => exact ⟨0, by omega, rfl, hbm⟩
    case round =>
      clear hbm
      obtain ⟨k, hk, rfl, hbel⟩ := hrel
      have hbox := hbxl.up hbel
      have hBw : Below w.heap.size w wr := hBl.trans (hbel.mono hBl.size)
      have hg := gl.up hbel
      obtain ⟨z0, y0, y1, y2, y3⟩ := id hbox
      dsimp only at y0 y1 y2 y3
      have hbz := hBw.size
      by_cases hlt : k < M
      · have hk1 : k < t.ops.length := by omega
        have m5 := k5 wr A6 c6 k hBw hg
        unfold TapRet at m5
        by_cases h0 : rapC t L0 k = 0
        · have Hl := Lib.hid (show rapL t L0 k = nxt t L0 k by unfold rapL; rw [if_pos h0]; rfl)
          rw [h0, Hl.out] at m5
          simp only [erV_0] at m5
          clear h0
          go_wp2_with fail
          refine m5.mono ?_
          rintro e w9 ⟨⟨v9, rfl, A9, c9, rfl, _, g9⟩, hb9⟩
          rw [nxt_len]
          have hbox9 := hbox.up hb9
          have hB9 : Below w.heap.size w w9 := hBw.trans (hb9.mono hbz)
          have hl9 : Below w8.heap.size w8 w9 := hbel.trans (hb9.mono hbel.size)
          have hg9 := hg.up hb9
          obtain ⟨x0, x1, x2, x3, x4⟩ := id hbox9
          dsimp only at x1 x2 x3 x4
          clear z0 y0 y1 y2 y3 m5
          go_wp2
          go_loopw [119] (fun i wx => ∃ v : Nat, v ≤ L0.length ∧ i = .int .i64 v ∧ Below w9.heap.size w9 wx) (fun i _ => L0.length - (intOf i).toNat)
          case atStart => exact ⟨0, by omega, rfl, Below.refl _ _⟩
          case round =>
            clear x0 x1 x2 x3 x4
            obtain ⟨v, hv, rfl, hbx⟩ := hrel
            have hboxx := hbox9.up hbx
            have hBx : Below w.heap.size w wr := hB9.trans (hbx.mono hB9.size)
            obtain ⟨x0, x1, x2, x3, x4⟩ := id hboxx
            dsimp only at x1 x2 x3 x4
            have hbzx := hbx.size
            by_cases hltv : v < L0.length
            · obtain ⟨bh, oh, ea, hbh, hch⟩ := hg9.at_ hltv
              subst ea
              have e1 := (hbx.cell (p := ⟨bh, oh + v, none⟩) hbh).trans (hch v hltv)
              obtain ⟨b, o, S, d, T, d2, ea, hb, q0, qs, q1, q2, f2, q3, e5⟩ := ht.ops.at2 hBx hk1
              dsimp only at ea
              subst ea
              have hbzw := hBx.size
              have gb : b < wr.heap.size := by omega
              have j2 := e5.len
              clear q0 qs q1 q2 hch
              go_wp2
              go_loopw [20, 133] (fun n i wy => ∃ j : Nat, j ≤ (opr t.ops k).effs.length ∧ i = .int .i64 j ∧ n = .int .i64 (laV L0 (opr t.ops k).effs v j) ∧ Below wr.heap.size wr wy) (fun _ i _ => (opr t.ops k).effs.length - (intOf i).toNat)
              case atStart => exact ⟨0, by omega, rfl, rfl, Below.refl _ _⟩
              case round =>
                obtain ⟨j, hj, rfl, rfl, hby⟩ := hrel
                have hBy : Below w.heap.size w wr := hBx.trans (hby.mono hbzw)
                have hn9 : Below w9.heap.size w9 wr := hbx.trans (hby.mono hbzx)
                have hbzy := hby.size
                by_cases hltj : j < (opr t.ops k).effs.length
                · obtain ⟨b', o', S', c', ea', hb', i0, f5, i1, i2⟩ := e5.at2 hBy hltj
                  subst ea'
                  have g3 : b' < wr.heap.size := by omega
                  have j3 := f5.len
                  have hBz := hBy.size
                  have h9z := hn9.size
                  have k6 := fun w1 (hb : Below wr.heap.size wr w1) => holds_any (eff (opr t.ops k).effs j).whn L0 S' (some ⟨bh, oh, none⟩) c' c6 w1 (f5.up (hBy.trans (hb.mono hBz))) (hg9.up (hn9.trans (hb.mono h9z)))
                  by_cases hv2 : (eff (opr t.ops k).effs j).var = (v : Int)
                  · rw [hv2] at i1
                    cases e6 : hoB (eff (opr t.ops k).effs j).whn L0
                    · have He := Lib.hid (show laV L0 (opr t.ops k).effs v (j + 1) = laV L0 (opr t.ops k).effs v j by conv => lhs; unfold laV; rw [if_neg (by rw [e6]; simp)])
                      rw [e6] at k6
                      clear e6
                      go_wp2_with fail; refine (k6 _ (by repeat (first | exact Below.refl _ _ | refine below_dN ?_ _ | refine Below.drew ?_ | refine Below.alloc ?_ (by first | omega | (simp; done) | (simp; omega)) _ | refine Below.setCell ?_ (by first | omega | (simp; done) | (simp; omega)) _ | refine below_step (by assumption) (by first | omega | (simp; done) | (simp; omega)) ?_))).mono ?_; rintro e w10 ⟨rfl, hb10⟩; obtain ⟨hc10, hf10, hz10, hlt10, hle10⟩ := cellsIf hb10 (by (try simp); exact rfl); (try have : w.heap.size < w10.heap.size := (by omega)); (try have : w.heap.size < w10.heap.size + 1 := (by omega)); (try have : w.heap.size < w10.heap.size + 1 + 1 := (by omega)); (try have : w.heap.size + 1 < w10.heap.size := (by omega)); (try have : w.heap.size + 1 < w10.heap.size + 1 := (by omega)); (try have : w.heap.size + 1 < w10.heap.size + 1 + 1 := (by omega)); (try have : w.heap.size + 1 + 1 < w10.heap.size := (by omega)); (try have : w.heap.size + 1 + 1 < w10.heap.size + 1 := (by omega)); (try have : w.heap.size + 1 + 1 < w10.heap.size + 1 + 1 := (by omega)); (try have : w1.heap.size < w10.heap.size := (by omega)); (try have : w1.heap.size < w10.heap.size + 1 := (by omega)); (try have : w1.heap.size < w10.heap.size + 1 + 1 := (by omega)); (try have : w1.heap.size + 1 < w10.heap.size := (by omega)); (try have : w1.heap.size + 1 < w10.heap.size + 1 := (by omega)); (try have : w1.heap.size + 1 < w10.heap.size + 1 + 1 := (by omega)); (try have : w1.heap.size + 1 + 1 < w10.heap.size := (by omega)); (try have : w1.heap.size + 1 + 1 < w10.heap.size + 1 := (by omega)); (try have : w1.heap.size + 1 + 1 < w10.heap.size + 1 + 1 := (by omega)); (try have : w2.heap.size < w10.heap.size := (by omega)); (try have : w2.heap.size < w10.heap.size + 1 := (by omega)); (try have : w2.heap.size < w10.heap.size + 1 + 1 := (by omega)); (try have : w2.heap.size + 1 < w10.heap.size := (by omega)); (try have : w2.heap.size + 1 < w10.heap.size + 1 := (by omega)); (try have : w2.heap.size + 1 < w10.heap.size + 1 + 1 := (by omega)); (try have : w2.heap.size + 1 + 1 < w10.heap.size := (by omega)); (try have : w2.heap.size + 1 + 1 < w10.heap.size + 1 := (by omega)); (try have : w2.heap.size + 1 + 1 < w10.heap.size + 1 + 1 := (by omega)); (try have : w3.heap.size < w10.heap.size := (by omega)); (try have : w3.heap.size < w10.heap.size + 1 := (by omega)); (try have : w3.heap.size < w10.heap.size + 1 + 1 := (by omega)); (try have : w3.heap.size + 1 < w10.heap.size := (by omega)); (try have : w3.heap.size + 1 < w10.heap.size + 1 := (by omega)); (try have : w3.heap.size + 1 < w10.heap.size + 1 + 1 := (by omega)); (try have : w3.heap.size + 1 + 1 < w10.heap.size := (by omega)); (try have : w3.heap.size + 1 + 1 < w10.heap.size + 1 := (by omega)); (try have : w3.heap.size + 1 + 1 < w10.heap.size + 1 + 1 := (by omega)); (try have : w4.heap.size < w10.heap.size := (by omega)); (try have : w4.heap.size < w10.heap.size + 1 := (by omega)); (try have : w4.heap.size < w10.heap.size + 1 + 1 := (by omega)); (try have : w4.heap.size + 1 < w10.heap.size := (by omega)); (try have : w4.heap.size + 1 < w10.heap.size + 1 := (by omega)); (try have : w4.heap.size + 1 < w10.heap.size + 1 + 1 := (by omega)); (try have : w4.heap.size + 1 + 1 < w10.heap.size := (by omega)); (try have : w4.heap.size + 1 + 1 < w10.heap.size + 1 := (by omega)); (try have : w4.heap.size + 1 + 1 < w10.heap.size + 1 + 1 := (by omega)); (try have : w5.heap.size < w10.heap.size := (by omega)); (try have : w5.heap.size < w10.heap.size + 1 := (by omega)); (try have : w5.heap.size < w10.heap.size + 1 + 1 := (by omega)); (try have : w5.heap.size + 1 < w10.heap.size := (by omega)); (try have : w5.heap.size + 1 < w10.heap.size + 1 := (by omega)); (try have : w5.heap.size + 1 < w10.heap.size + 1 + 1 := (by omega)); (try have : w5.heap.size + 1 + 1 < w10.heap.size := (by omega)); (try have : w5.heap.size + 1 + 1 < w10.heap.size + 1 := (by omega)); (try have : w5.heap.size + 1 + 1 < w10.heap.size + 1 + 1 := (by omega)); (try have : w6.heap.size < w10.heap.size := (by omega)); (try have : w6.heap.size < w10.heap.size + 1 := (by omega)); (try have : w6.heap.size < w10.heap.size + 1 + 1 := (by omega)); (try have : w6.heap.size + 1 < w10.heap.size := (by omega)); (try have : w6.heap.size + 1 < w10.heap.size + 1 := (by omega)); (try have : w6.heap.size + 1 < w10.heap.size + 1 + 1 := (by omega)); (try have : w6.heap.size + 1 + 1 < w10.heap.size := (by omega)); (try have : w6.heap.size + 1 + 1 < w10.heap.size + 1 := (by omega)); (try have : w6.heap.size + 1 + 1 < w10.heap.size + 1 + 1 := (by omega)); (try have : w7.heap.size < w10.heap.size := (by omega)); (try have : w7.heap.size < w10.heap.size + 1 := (by omega)); (try have : w7.heap.size < w10.heap.size + 1 + 1 := (by omega)); (try have : w7.heap.size + 1 < w10.heap.size := (by omega)); (try have : w7.heap.size + 1 < w10.heap.size + 1 := (by omega)); (try have : w7.heap.size + 1 < w10.heap.size + 1 + 1 := (by omega)); (try have : w7.heap.size + 1 + 1 < w10.heap.size := (by omega)); (try have : w7.heap.size + 1 + 1 < w10.heap.size + 1 := (by omega)); (try have : w7.heap.size + 1 + 1 < w10.heap.size + 1 + 1 := (by omega)); (try have : w8.heap.size < w10.heap.size := (by omega)); (try have : w8.heap.size < w10.heap.size + 1 := (by omega)); (try have : w8.heap.size < w10.heap.size + 1 + 1 := (by omega)); (try have : w8.heap.size + 1 < w10.heap.size := (by omega)); (try have : w8.heap.size + 1 < w10.heap.size + 1 := (by omega)); (try have : w8.heap.size + 1 < w10.heap.size + 1 + 1 := (by omega)); (try have : w8.heap.size + 1 + 1 < w10.heap.size := (by omega)); (try have : w8.heap.size + 1 + 1 < w10.heap.size + 1 := (by omega)); (try have : w8.heap.size + 1 + 1 < w10.heap.size + 1 + 1 := (by omega)); (try have : w9.heap.size < w10.heap.size := (by omega)); (try have : w9.heap.size < w10.heap.size + 1 := (by omega)); (try have : w9.heap.size < w10.heap.size + 1 + 1 := (by omega)); (try have : w9.heap.size + 1 < w10.heap.size := (by omega)); (try have : w9.heap.size + 1 < w10.heap.size + 1 := (by omega)); (try have : w9.heap.size + 1 < w10.heap.size + 1 + 1 := (by omega)); (try have : w9.heap.size + 1 + 1 < w10.heap.size := (by omega)); (try have : w9.heap.size + 1 + 1 < w10.heap.size + 1 := (by omega)); (try have : w9.heap.size + 1 + 1 < w10.heap.size + 1 + 1 := (by omega))
                      go_wp2
                      go_roundw
                      case rel => exact ⟨j + 1, by omega, by go_num, by rw [He.out], by first | exact below_step hb10 (by go_loud (simp; omega)) (Below.alloc hby (by first | omega | (simp; omega)) _) | (repeat (first | exact Below.refl _ _ | refine below_dN ?_ _ | refine Below.drew ?_ | refine Below.alloc ?_ (by first | omega | (simp; done) | (simp; omega)) _ | refine Below.setCell ?_ (by first | omega | (simp; done) | (simp; omega)) _ | refine below_step (by assumption) (by first | omega | (simp; done) | (simp; omega)) ?_); exact hby)⟩
                      case measure => simp [intOf]; omega
                    · have He := Lib.hid (show laV L0 (opr t.ops k).effs v (j + 1) = (eff (opr t.ops k).effs j).val by conv => lhs; unfold laV; rw [if_pos ⟨hv2, e6⟩])
                      rw [e6] at k6
                      clear e6
                      go_wp2_with fail; refine (k6 _ (by repeat (first | exact Below.refl _ _ | refine below_dN ?_ _ | refine Below.drew ?_ | refine Below.alloc ?_ (by first | omega | (simp; done) | (simp; omega)) _ | refine Below.setCell ?_ (by first | omega | (simp; done) | (simp; omega)) _ | refine below_step (by assumption) (by first | omega | (simp; done) | (simp; omega)) ?_))).mono ?_; rintro e w10 ⟨rfl, hb10⟩; obtain ⟨hc10, hf10, hz10, hlt10, hle10⟩ := cellsIf hb10 (by (try simp); exact rfl); (try have : w.heap.size < w10.heap.size := (by omega)); (try have : w.heap.size < w10.heap.size + 1 := (by omega)); (try have : w.heap.size < w10.heap.size + 1 + 1 := (by omega)); (try have : w.heap.size + 1 < w10.heap.size := (by omega)); (try have : w.heap.size + 1 < w10.heap.size + 1 := (by omega)); (try have : w.heap.size + 1 < w10.heap.size + 1 + 1 := (by omega)); (try have : w.heap.size + 1 + 1 < w10.heap.size := (by omega)); (try have : w.heap.size + 1 + 1 < w10.heap.size + 1 := (by omega)); (try have : w.heap.size + 1 + 1 < w10.heap.size + 1 + 1 := (by omega)); (try have : w1.heap.size < w10.heap.size := (by omega)); (try have : w1.heap.size < w10.heap.size + 1 := (by omega)); (try have : w1.heap.size < w10.heap.size + 1 + 1 := (by omega)); (try have : w1.heap.size + 1 < w10.heap.size := (by omega)); (try have : w1.heap.size + 1 < w10.heap.size + 1 := (by omega)); (try have : w1.heap.size + 1 < w10.heap.size + 1 + 1 := (by omega)); (try have : w1.heap.size + 1 + 1 < w10.heap.size := (by omega)); (try have : w1.heap.size + 1 + 1 < w10.heap.size + 1 := (by omega)); (try have : w1.heap.size + 1 + 1 < w10.heap.size + 1 + 1 := (by omega)); (try have : w2.heap.size < w10.heap.size := (by omega)); (try have : w2.heap.size < w10.heap.size + 1 := (by omega)); (try have : w2.heap.size < w10.heap.size + 1 + 1 := (by omega)); (try have : w2.heap.size + 1 < w10.heap.size := (by omega)); (try have : w2.heap.size + 1 < w10.heap.size + 1 := (by omega)); (try have : w2.heap.size + 1 < w10.heap.size + 1 + 1 := (by omega)); (try have : w2.heap.size + 1 + 1 < w10.heap.size := (by omega)); (try have : w2.heap.size + 1 + 1 < w10.heap.size + 1 := (by omega)); (try have : w2.heap.size + 1 + 1 < w10.heap.size + 1 + 1 := (by omega)); (try have : w3.heap.size < w10.heap.size := (by omega)); (try have : w3.heap.size < w10.heap.size + 1 := (by omega)); (try have : w3.heap.size < w10.heap.size + 1 + 1 := (by omega)); (try have : w3.heap.size + 1 < w10.heap.size := (by omega)); (try have : w3.heap.size + 1 < w10.heap.size + 1 := (by omega)); (try have : w3.heap.size + 1 < w10.heap.size + 1 + 1 := (by omega)); (try have : w3.heap.size + 1 + 1 < w10.heap.size := (by omega)); (try have : w3.heap.size + 1 + 1 < w10.heap.size + 1 := (by omega)); (try have : w3.heap.size + 1 + 1 < w10.heap.size + 1 + 1 := (by omega)); (try have : w4.heap.size < w10.heap.size := (by omega)); (try have : w4.heap.size < w10.heap.size + 1 := (by omega)); (try have : w4.heap.size < w10.heap.size + 1 + 1 := (by omega)); (try have : w4.heap.size + 1 < w10.heap.size := (by omega)); (try have : w4.heap.size + 1 < w10.heap.size + 1 := (by omega)); (try have : w4.heap.size + 1 < w10.heap.size + 1 + 1 := (by omega)); (try have : w4.heap.size + 1 + 1 < w10.heap.size := (by omega)); (try have : w4.heap.size + 1 + 1 < w10.heap.size + 1 := (by omega)); (try have : w4.heap.size + 1 + 1 < w10.heap.size + 1 + 1 := (by omega)); (try have : w5.heap.size < w10.heap.size := (by omega)); (try have : w5.heap.size < w10.heap.size + 1 := (by omega)); (try have : w5.heap.size < w10.heap.size + 1 + 1 := (by omega)); (try have : w5.heap.size + 1 < w10.heap.size := (by omega)); (try have : w5.heap.size + 1 < w10.heap.size + 1 := (by omega)); (try have : w5.heap.size + 1 < w10.heap.size + 1 + 1 := (by omega)); (try have : w5.heap.size + 1 + 1 < w10.heap.size := (by omega)); (try have : w5.heap.size + 1 + 1 < w10.heap.size + 1 := (by omega)); (try have : w5.heap.size + 1 + 1 < w10.heap.size + 1 + 1 := (by omega)); (try have : w6.heap.size < w10.heap.size := (by omega)); (try have : w6.heap.size < w10.heap.size + 1 := (by omega)); (try have : w6.heap.size < w10.heap.size + 1 + 1 := (by omega)); (try have : w6.heap.size + 1 < w10.heap.size := (by omega)); (try have : w6.heap.size + 1 < w10.heap.size + 1 := (by omega)); (try have : w6.heap.size + 1 < w10.heap.size + 1 + 1 := (by omega)); (try have : w6.heap.size + 1 + 1 < w10.heap.size := (by omega)); (try have : w6.heap.size + 1 + 1 < w10.heap.size + 1 := (by omega)); (try have : w6.heap.size + 1 + 1 < w10.heap.size + 1 + 1 := (by omega)); (try have : w7.heap.size < w10.heap.size := (by omega)); (try have : w7.heap.size < w10.heap.size + 1 := (by omega)); (try have : w7.heap.size < w10.heap.size + 1 + 1 := (by omega)); (try have : w7.heap.size + 1 < w10.heap.size := (by omega)); (try have : w7.heap.size + 1 < w10.heap.size + 1 := (by omega)); (try have : w7.heap.size + 1 < w10.heap.size + 1 + 1 := (by omega)); (try have : w7.heap.size + 1 + 1 < w10.heap.size := (by omega)); (try have : w7.heap.size + 1 + 1 < w10.heap.size + 1 := (by omega)); (try have : w7.heap.size + 1 + 1 < w10.heap.size + 1 + 1 := (by omega)); (try have : w8.heap.size < w10.heap.size := (by omega)); (try have : w8.heap.size < w10.heap.size + 1 := (by omega)); (try have : w8.heap.size < w10.heap.size + 1 + 1 := (by omega)); (try have : w8.heap.size + 1 < w10.heap.size := (by omega)); (try have : w8.heap.size + 1 < w10.heap.size + 1 := (by omega)); (try have : w8.heap.size + 1 < w10.heap.size + 1 + 1 := (by omega)); (try have : w8.heap.size + 1 + 1 < w10.heap.size := (by omega)); (try have : w8.heap.size + 1 + 1 < w10.heap.size + 1 := (by omega)); (try have : w8.heap.size + 1 + 1 < w10.heap.size + 1 + 1 := (by omega)); (try have : w9.heap.size < w10.heap.size := (by omega)); (try have : w9.heap.size < w10.heap.size + 1 := (by omega)); (try have : w9.heap.size < w10.heap.size + 1 + 1 := (by omega)); (try have : w9.heap.size + 1 < w10.heap.size := (by omega)); (try have : w9.heap.size + 1 < w10.heap.size + 1 := (by omega)); (try have : w9.heap.size + 1 < w10.heap.size + 1 + 1 := (by omega)); (try have : w9.heap.size + 1 + 1 < w10.heap.size := (by omega)); (try have : w9.heap.size + 1 + 1 < w10.heap.size + 1 := (by omega)); (try have : w9.heap.size + 1 + 1 < w10.heap.size + 1 + 1 := (by omega))
                      go_wp2
                      go_roundw
                      case rel => exact ⟨j + 1, by omega, by go_num, by rw [He.out], by first | exact below_step hb10 (by go_loud (simp; omega)) (Below.alloc hby (by first | omega | (simp; omega)) _) | (repeat (first | exact Below.refl _ _ | refine below_dN ?_ _ | refine Below.drew ?_ | refine Below.alloc ?_ (by first | omega | (simp; done) | (simp; omega)) _ | refine Below.setCell ?_ (by first | omega | (simp; done) | (simp; omega)) _ | refine below_step (by assumption) (by first | omega | (simp; done) | (simp; omega)) ?_); exact hby)⟩
                      case measure => simp [intOf]; omega
                  · have He := Lib.hid (show laV L0 (opr t.ops k).effs v (j + 1) = laV L0 (opr t.ops k).effs v j by conv => lhs; unfold laV; rw [if_neg (fun h => hv2 h.1)])
                    have hv3 : ((eff (opr t.ops k).effs j).var == (v : Int)) = false := by simp [hv2]
                    go_wp2
                    go_roundw
                    case rel => exact ⟨j + 1, by omega, by go_num, by rw [He.out], by repeat (first | exact Below.refl _ _ | refine below_dN ?_ _ | refine Below.drew ?_ | refine Below.alloc ?_ (by first | omega | (simp; done) | (simp; omega)) _ | refine Below.setCell ?_ (by first | omega | (simp; done) | (simp; omega)) _ | refine below_step (by assumption) (by first | omega | (simp; done) | (simp; omega)) ?_); exact hby⟩
                    case measure => simp [intOf]; omega
                · obtain rfl : j = (opr t.ops k).effs.length := by omega
                  have Hn := Lib.hid (show nth (nxt t L0 k) v = laV L0 (opr t.ops k).effs v (opr t.ops k).effs.length from la_eq hltv _ (fun i hi => by have := mal_var Hc.out.2.2.1 hk1 hi; have := stB_len Hq.out; omega))
                  obtain ⟨bg, og, eg, hbg, hcg⟩ := g9.at_ (k := v) (by rw [nxt_len]; exact hltv)
                  subst eg
                  have i9 := (hn9.cell (p := ⟨bg, og + v, none⟩) hbg).trans (hcg v (by rw [nxt_len]; exact hltv))
                  rw [Hn.out] at i9
                  go_wp2
                  go_roundw
                  case rel => exact ⟨v + 1, by omega, by go_num, hn9⟩
                  case measure => simp [intOf]; omega
            · go_wp2
              go_roundw
              case rel => exact ⟨k + 1, by omega, by go_num, hl9.trans (hbx.mono hl9.size)⟩
              case measure => simp [intOf]; omega
        · have He := Lib.hid (erV_ne h0)
          rw [He.out] at m5
          clear h0
          go_wp2_with fail
          refine m5.mono ?_
          rintro e w9 ⟨⟨v9, rfl, A9, c9, rfl, _, g9⟩, hb9⟩
          go_wp2
          go_roundw
          case rel => exact ⟨k + 1, by omega, by go_num, hbel.trans (hb9.mono hbel.size)⟩
          case measure => simp [intOf]; omega
      · go_wp2
        go_ret
        exact ⟨rfl, hBw⟩

end Go.Proofs.Ytbbgbogenkcooaa

/- The law TaskSplits. -/
import Derived.Test.YtbbgbogenkcooaaTaskT
import Derived.Test.YtbbgbogenkcooaaTaskX
import Derived.Test.YtbbgbogenkcooaaApp
namespace Go.Proofs.Ytbbgbogenkcooaa
set_option linter.unusedSimpArgs false
set_option linter.unusedVariables false
open Go.RowKit
set_option linter.unusedVariables false

theorem own_got1 {w : World} {B : Nat} {v : Value} {l : List Int} {n : Nat} (h : w.ownsRow B 3 1 v n (ic l)) (hn : n = l.length) (hl : l.length ≤ 140737488355328) : GotInts w v l := by subst hn; exact own_got h hl
theorem own_some {g m c k : Nat} (h : Value.ownBlock (.slice (some ⟨g, 0, none⟩) m c) = some k) : k = g := by cases h; rfl
theorem own_or {v : Value} {g m c k H B : Nat} (h : v.ownBlock = Value.ownBlock (.slice (some ⟨g, 0, none⟩) m c) ∨ v.ownBlock = some H) (hk : v.ownBlock = some k) (hg : B ≤ g) (hH : B ≤ H) : B ≤ k := by
  rcases h with h | h <;> rw [h] at hk <;> cases hk <;> assumption
theorem own_drew {w : World} {B s n : Nat} {e : TypeId} {v : Value} {xs : List Value} (h : w.ownsRow B e s v n xs) : w.drew.ownsRow B e s v n xs := h

set_option maxRecDepth 4000 in
set_option maxHeartbeats 4000000 in
theorem splits_bad (t : Tsk) (p : Lies) (s : List Int) (A : Option Addr) (c : Nat) (pa pb : List Int) (P0 P1 : Option Addr) (c0 c1 : Nat) (w : World) (ht : TaskAt w w.heap.size t p) (hs : IntsAt w w.heap.size A s) (hp0 : IntsAt w w.heap.size P0 pa) (hp1 : IntsAt w w.heap.size P1 pb) (hn0 : P0 = none → c0 = 0) (hn1 : P1 = none → c1 = 0) (hle : pa.length + pb.length ≤ 200) (hC : (runR t s pa).2.2 ≠ 0) :
    Calls Try.prog 13 #[TaskV t p, .slice A s.length c, .agg #[.slice P0 pa.length c0, .slice P1 pb.length c1]] w fun e w' => e = .returned (.bool true) ∧ Below w.heap.size w w' := by
  have k0 := fun w1 => awake05_any w1
  have k1 := fun w1 (hb : Below w.heap.size w w1) => lawlarge_any t p w1 (ht.up hb)
  have k2 := fun w1 B d (hb : Below w.heap.size w w1) (hl : IntsAt w1 w1.heap.size B (pa ++ pb)) => trun_any t p s (pa ++ pb) A B c d w1 (ht.up hb) (hs.up hb) hl
  have k3 := fun w1 (hb : Below w.heap.size w w1) => trun_any t p s pa A P0 c c0 w1 (ht.up hb) (hs.up hb) (hp0.up hb)
  have Hp0 := Lib.hid (fun X (hb : Below w.heap.size w X) => ints_srcAt (c := c0) (hp0.keep (w' := X) (fun _ hp => hb.cell hp) hb.size) hn0)
  have Hp1 := Lib.hid (fun X (hb : Below w.heap.size w X) => ints_srcAt (c := c1) (hp1.keep (w' := X) (fun _ hp => hb.cell hp) hb.size) hn1)
  have l0 := hp0.len
  have l1 := hp1.len
  have ls := hs.len
  clear hn0 hn1
  unfold TrunRet at k2 k3
  have hW := split_bad hle hC
  obtain ⟨r0, hr0⟩ : ∃ r, r = runR t s pa := ⟨_, rfl⟩
  obtain ⟨rw, hrw⟩ : ∃ r, r = runR t s (pa ++ pb) := ⟨_, rfl⟩
  rw [← hr0] at hW hC k3
  rw [← hrw] at hW k2
  clear hr0 hrw
  obtain ⟨L0, N0, C0⟩ := r0
  obtain ⟨LW, NW, CW⟩ := rw
  dsimp only at hW hC k2 k3
  subst hW
  have He := Lib.hid (erV_ne hC)
  have kn := num_any CW
  simp only [He.out, List.length_append] at k2 k3 kn
  clear hC
  obtain ⟨av, ai, ag, ao, cv, ci, cg, co⟩ := p
  unfold TaskV at *
  dsimp only at *
  obtain ⟨inf, hi, iz0, iz1, iz2⟩ := info_parts infoI
  have hpb0 : pa.length + pb.length ≤ 200 := hle
  go_enter Try.func13, Try.ntmps13
  go_wp2_with fail
  refine (k1 _ (by repeat (first | exact Below.refl _ _ | refine below_dN ?_ _ | refine Below.drew ?_ | refine Below.alloc ?_ (by first | omega | (simp; done) | (simp; omega)) _ | refine Below.setCell ?_ (by first | omega | (simp; done) | (simp; omega)) _ | refine below_step (by assumption) (by first | omega | (simp; done) | (simp; omega)) ?_))).mono ?_
  rintro e w1 ⟨⟨B, rfl⟩, hb1⟩
  obtain ⟨hc1, hf1, hz1, hlt1, hle1⟩ := cellsIf hb1 (by (try simp); exact rfl)
  have hbx1 : Boxed w1 w.heap.size t ⟨av, ai, ag, ao, cv, ci, cg, co⟩ := Boxed.up (by constructor <;> first | (simp; done) | (simp; omega)) hb1
  have e01 : w1.cell? ⟨w.heap.size + 1, 0, none⟩ = some (.slice P0 pa.length c0) := (hb1.cell (p := ⟨w.heap.size + 1, 0, none⟩) (by first | (simp; done) | (simp; omega))).trans (by simp)
  have e02 : w1.cell? ⟨w.heap.size + 1, 1, none⟩ = some (.slice P1 pb.length c1) := (hb1.cell (p := ⟨w.heap.size + 1, 1, none⟩) (by first | (simp; done) | (simp; omega))).trans (by simp)
  have hs1 : w.heap.size + 2 ≤ w1.heap.size := by first | (simpa using hz1) | omega
  have hbw1 : Below w.heap.size w w1 := by repeat (first | exact Below.refl _ _ | refine below_dN ?_ _ | refine Below.drew ?_ | refine Below.alloc ?_ (by first | omega | (simp; done) | (simp; omega)) _ | refine Below.setCell ?_ (by first | omega | (simp; done) | (simp; omega)) _ | refine below_step (by assumption) (by first | omega | (simp; done) | (simp; omega)) ?_)
  cases B
  case true =>
    go_wp2_with fail; refine (k0 _).mono ?_; rintro e w2 ⟨rfl, hb2⟩; obtain ⟨hc2, hf2, hz2, hlt2, hle2⟩ := cellsIf hb2 (by (try simp); exact rfl); (try have : w.heap.size < w2.heap.size := (by omega)); (try have : w.heap.size < w2.heap.size + 1 := (by omega)); (try have : w.heap.size < w2.heap.size + 1 + 1 := (by omega)); (try have : w.heap.size + 1 < w2.heap.size := (by omega)); (try have : w.heap.size + 1 < w2.heap.size + 1 := (by omega)); (try have : w.heap.size + 1 < w2.heap.size + 1 + 1 := (by omega)); (try have : w.heap.size + 1 + 1 < w2.heap.size := (by omega)); (try have : w.heap.size + 1 + 1 < w2.heap.size + 1 := (by omega)); (try have : w.heap.size + 1 + 1 < w2.heap.size + 1 + 1 := (by omega)); (try have : w1.heap.size < w2.heap.size := (by omega)); (try have : w1.heap.size < w2.heap.size + 1 := (by omega)); (try have : w1.heap.size < w2.heap.size + 1 + 1 := (by omega)); (try have : w1.heap.size + 1 < w2.heap.size := (by omega)); (try have : w1.heap.size + 1 < w2.heap.size + 1 := (by omega)); (try have : w1.heap.size + 1 < w2.heap.size + 1 + 1 := (by omega)); (try have : w1.heap.size + 1 + 1 < w2.heap.size := (by omega)); (try have : w1.heap.size + 1 + 1 < w2.heap.size + 1 := (by omega)); (try have : w1.heap.size + 1 + 1 < w2.heap.size + 1 + 1 := (by omega))
    go_wp2
    go_ret
    exact ⟨rfl, by repeat (first | exact Below.refl _ _ | refine below_dN ?_ _ | refine Below.drew ?_ | refine Below.alloc ?_ (by first | omega | (simp; done) | (simp; omega)) _ | refine Below.setCell ?_ (by first | omega | (simp; done) | (simp; omega)) _ | refine below_step (by assumption) (by first | omega | (simp; done) | (simp; omega)) ?_)⟩
  go_wp2_with fail; refine (k0 _).mono ?_; rintro e w2 ⟨rfl, hb2⟩; obtain ⟨hc2, hf2, hz2, hlt2, hle2⟩ := cellsIf hb2 (by (try simp); exact rfl); (try have : w.heap.size < w2.heap.size := (by omega)); (try have : w.heap.size < w2.heap.size + 1 := (by omega)); (try have : w.heap.size < w2.heap.size + 1 + 1 := (by omega)); (try have : w.heap.size + 1 < w2.heap.size := (by omega)); (try have : w.heap.size + 1 < w2.heap.size + 1 := (by omega)); (try have : w.heap.size + 1 < w2.heap.size + 1 + 1 := (by omega)); (try have : w.heap.size + 1 + 1 < w2.heap.size := (by omega)); (try have : w.heap.size + 1 + 1 < w2.heap.size + 1 := (by omega)); (try have : w.heap.size + 1 + 1 < w2.heap.size + 1 + 1 := (by omega)); (try have : w1.heap.size < w2.heap.size := (by omega)); (try have : w1.heap.size < w2.heap.size + 1 := (by omega)); (try have : w1.heap.size < w2.heap.size + 1 + 1 := (by omega)); (try have : w1.heap.size + 1 < w2.heap.size := (by omega)); (try have : w1.heap.size + 1 < w2.heap.size + 1 := (by omega)); (try have : w1.heap.size + 1 < w2.heap.size + 1 + 1 := (by omega)); (try have : w1.heap.size + 1 + 1 < w2.heap.size := (by omega)); (try have : w1.heap.size + 1 + 1 < w2.heap.size + 1 := (by omega)); (try have : w1.heap.size + 1 + 1 < w2.heap.size + 1 + 1 := (by omega))
  have hbx2 := hbx1.up hb2
  have e03 := (hb2.cell (p := ⟨w.heap.size + 1, 0, none⟩) (by show w.heap.size + 1 < _; omega)).trans e01
  have e04 := (hb2.cell (p := ⟨w.heap.size + 1, 1, none⟩) (by show w.heap.size + 1 < _; omega)).trans e02
  have hbw2 : Below w.heap.size w w2 := hbw1.trans (hb2.mono (by omega))
  have hs2 : w.heap.size + 2 ≤ w2.heap.size := by have := hb2.size; omega
  obtain ⟨z0, y0, y1, y2, y3⟩ := id hbx2
  dsimp only at y0 y1 y2 y3
  have g7 : w.heap.size < w2.heap.size := by omega
  have g8 : w.heap.size + 1 < w2.heap.size := by omega
  clear hc1 hf1 hz1 hlt1 hle1 hc2 hf2 hz2 hlt2 hle2 hbx1 e01 e02 hb1 hb2
  go_wp2_with fail
  go_region_held3 (fun w' => w'.cell? ⟨w.heap.size, 0, none⟩ = some (.slice av t.vars.length cv) ∧ w'.cell? ⟨w.heap.size, 1, none⟩ = some (.slice ai t.init.length ci) ∧ w'.cell? ⟨w.heap.size, 2, none⟩ = some (.slice ag t.goal.length cg) ∧ w'.cell? ⟨w.heap.size, 3, none⟩ = some (.slice ao t.ops.length co) ∧ w'.cell? ⟨w.heap.size + 1, 0, none⟩ = some (.slice P0 pa.length c0) ∧ w'.cell? ⟨w.heap.size + 1, 1, none⟩ = some (.slice P1 pb.length c1)) (first | (refine ⟨?_, ?_, ?_, ?_, ?_, ?_⟩ <;> (first | assumption | exact ((show Below w2.heap.size w2 _ by first | assumption | repeat (first | exact Below.refl _ _ | refine below_dN ?_ _ | refine Below.drew ?_ | refine Below.alloc ?_ (by first | omega | (simp; done) | (simp; omega)) _ | refine Below.setCell ?_ (by first | omega | (simp; done) | (simp; omega)) _ | refine below_step (by assumption) (by first | omega | (simp; done) | (simp; omega)) ?_)).cell g7).trans (by assumption) | exact ((show Below w2.heap.size w2 _ by first | assumption | repeat (first | exact Below.refl _ _ | refine below_dN ?_ _ | refine Below.drew ?_ | refine Below.alloc ?_ (by first | omega | (simp; done) | (simp; omega)) _ | refine Below.setCell ?_ (by first | omega | (simp; done) | (simp; omega)) _ | refine below_step (by assumption) (by first | omega | (simp; done) | (simp; omega)) ?_)).cell g8).trans (by assumption))) | go_keep) (first | ((refine step_append_src (by rfl) _ _ 22 (by rfl) w.heap.size 3 inf (.int .i64 0) 1 8 undI hi iz0 iz1 iz2 rfl (by decide) (.slice (some ⟨w2.heap.size, 0, none⟩) 0 0) 0 [] (by rfl) (own_drew (World.ownsRow_made w2 #[] 0 (by omega) (by simp [maxLen]) rfl)) P0 pa.length c0 _ (by rfl) (Hp0.out _ (by repeat (first | exact Below.refl _ _ | refine below_dN ?_ _ | refine Below.drew ?_ | refine Below.alloc ?_ (by first | omega | (simp; done) | (simp; omega)) _ | refine Below.setCell ?_ (by first | omega | (simp; done) | (simp; omega)) _ | refine below_step (by assumption) (by first | omega | (simp; done) | (simp; omega)) ?_))) (by unfold maxLen; omega) (by omega) (by first | omega | (simp; omega)) ?_); intro v3 w3 hown3 hgrow3 hat3; go_loud (have hb3 : Below w2.heap.size w2 w3 := Below.grown (show Below w2.heap.size w2 _ by repeat (first | exact Below.refl _ _ | refine below_dN ?_ _ | refine Below.drew ?_ | refine Below.alloc ?_ (by first | omega | (simp; done) | (simp; omega)) _ | refine Below.setCell ?_ (by first | omega | (simp; done) | (simp; omega)) _ | refine below_step (by assumption) (by first | omega | (simp; done) | (simp; omega)) ?_)) hgrow3 (by simp) (fun k hk => Nat.le_of_eq (own_some hk).symm)); go_loud (have hbw3 : Below w.heap.size w w3 := hbw2.trans (hb3.mono (by omega))); go_loud (have hs3 := hb3.size); go_loud (simp only [Nat.zero_add, List.nil_append] at hown3)) | (refine step_append_src (by rfl) _ _ 22 (by rfl) w.heap.size 3 inf (.int .i64 0) 1 8 undI hi iz0 iz1 iz2 rfl (by decide) v3 pa.length _ (by rfl) hown3 P1 pb.length c1 _ (by rfl) (Hp1.out _ hbw3) (by unfold maxLen; omega) (by omega) (by omega) ?_; intro v4 w4 hown4 hgrow4 hat4; go_loud (have hb4 : Below w2.heap.size w2 w4 := hb3.grown hgrow4 (by omega) (fun k hk => own_or hat3 hk (Nat.le_refl _) (by simp))); go_loud (have hbw4 : Below w.heap.size w w4 := hbw2.trans (hb4.mono (by omega))); go_loud (obtain ⟨A4, c4, rfl, hA4, hg4⟩ := own_got1 (l := pa ++ pb) (by unfold ic; rw [List.map_append]; exact hown4) (by simp) (by simp; omega))) | (go_at_call 42; refine (k2 _ _ _ hbw4 hg4).mono ?_; rintro e w5 ⟨⟨v5, rfl, A5, c5, rfl, _, g5⟩, hb5⟩; have hbw5 : Below w2.heap.size w2 w5 := hb4.trans (hb5.mono hb4.size)))
  obtain ⟨hc5, hf5, hz5, hlt5, hle5⟩ := cellsIf hbw5 rfl
  have hbx5 := hbx2.up hbw5
  have hB5 : Below w.heap.size w w5 := hbw2.trans (hbw5.mono (by omega))
  have hs5 : w.heap.size + 2 ≤ w5.heap.size := by omega
  clear hown3 hgrow3 hat3 hb3 hbw3 hs3 hgrow4 hat4 hb4 hbw4 hA4 hg4 hb5 z0
  go_wp2_with fail
  refine (k3 _ (by repeat (first | exact Below.refl _ _ | refine below_dN ?_ _ | refine Below.drew ?_ | refine Below.alloc ?_ (by first | omega | (simp; done) | (simp; omega)) _ | refine Below.setCell ?_ (by first | omega | (simp; done) | (simp; omega)) _ | refine below_step (by assumption) (by first | omega | (simp; done) | (simp; omega)) ?_))).mono ?_
  rintro e w6 ⟨⟨v6, rfl, A6, c6, rfl, _, g6⟩, hb6⟩
  obtain ⟨hc6, hf6, hz6, hlt6, hle6⟩ := cellsIf hb6 (by (try simp); exact rfl)
  go_wp2_with fail
  refine (kn _).mono ?_
  rintro e w7 ⟨rfl, rfl⟩
  go_wp2_with fail
  refine (kn _).mono ?_
  rintro e w7 ⟨rfl, rfl⟩
  go_wp2
  go_ret
  exact ⟨rfl, by repeat (first | exact Below.refl _ _ | refine below_dN ?_ _ | refine Below.drew ?_ | refine Below.alloc ?_ (by first | omega | (simp; done) | (simp; omega)) _ | refine Below.setCell ?_ (by first | omega | (simp; done) | (simp; omega)) _ | refine below_step (by assumption) (by first | omega | (simp; done) | (simp; omega)) ?_)⟩

end Go.Proofs.Ytbbgbogenkcooaa

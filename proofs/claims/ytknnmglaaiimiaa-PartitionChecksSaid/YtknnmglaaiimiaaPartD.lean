/- The reference's in, Uniform. -/
import Derived.Test.YtknnmglaaiimiaaPartAR
import Derived.Test.YtknnmglaaiimiaaPartC
import Derived.Test.YtknnmglaaiimiaaFracC
import Derived.Test.YtknnmglaaiimiaaFracQ
namespace Go.Proofs.Ytknnmglaaiimiaa
set_option linter.unusedSimpArgs false
set_option linter.unusedVariables false
open Go.RowKit
set_option linter.unusedVariables false

set_option maxRecDepth 4000 in
set_option maxHeartbeats 1000000 in
theorem rin_any (ops : List Int) (S : Option Addr) (c : Nat) (q o : Int) (w : World) (h : IntsAt w w.heap.size S ops) :
    Calls Try.prog 51 #[.agg #[.slice S ops.length c, .int .i64 q], .int .i64 o] w fun e w' => e = .returned (.bool (inN ops o ops.length)) ∧ Below w.heap.size w w' := by
  have l1 := h.len
  go_enter Try.func51, Try.ntmps51
  go_wp2
  go_loopw [10] (fun i wr => ∃ k : Nat, k ≤ ops.length ∧ i = .int .i64 k ∧ inN ops o k = false ∧ Below w.heap.size w wr) (fun i _ => ops.length - (intOf i).toNat)
  case atStart => exact ⟨0, by omega, rfl, rfl, by repeat (first | exact Below.refl _ _ | refine below_dN ?_ _ | refine Below.drew ?_ | refine Below.alloc ?_ (by first | omega | (simp; done) | (simp; omega)) _ | refine Below.setCell ?_ (by first | omega | (simp; done) | (simp; omega)) _ | refine below_step (by assumption) (by first | omega | (simp; done) | (simp; omega)) ?_)⟩
  case round =>
    obtain ⟨k, hk, rfl, hB, hbel⟩ := hrel
    have HB := Lib.hid hB
    clear hB
    by_cases hlt : k < ops.length
    · obtain ⟨b, o', ea, hb, d1⟩ := h.at2 hbel hlt
      subst ea
      have hbz := hbel.size
      cases e1 : (nth ops k == o)
      · go_wp2
        go_roundw
        case rel => exact ⟨k + 1, by omega, by go_num, (by rw [inN_succ, HB.out, e1]; rfl), hbel⟩
        case measure => simp [intOf]; omega
      · have He := Lib.hid (show inN ops o ops.length = true from anyB_true.2 ⟨k, hlt, e1⟩)
        go_wp2
        go_ret
        exact ⟨bool_ret He.out.symm, hbel⟩
    · obtain rfl : k = ops.length := by omega
      go_wp2
      go_ret
      exact ⟨bool_ret HB.out.symm, hbel⟩

theorem leaR_succ (costs : List Int) (l : List Cut) (ops : List Int) (i : Nat) : leaR costs l ops (i + 1) = if cmpF (shF costs l (nth ops i)).1 (shF costs l (nth ops i)).2.1 (leaR costs l ops i).1 (leaR costs l ops i).2 < 0 then ((shF costs l (nth ops i)).1, (shF costs l (nth ops i)).2.1) else leaR costs l ops i := rfl

def RetFk (l : List (Int × Int)) (c : Int) (w : World) (e : Ending) (w' : World) : Prop := (∃ v, e = .returned (.tuple #[v, .int .i64 c]) ∧ GotFs w' v l) ∧ Below w.heap.size w w'

set_option maxRecDepth 100000 in
set_option maxHeartbeats 8000000 in
theorem runiform_any (costs : List Int) (l : List Cut) (A1 A2 : Option Addr) (c1 c2 : Nat) (w : World) (h1 : IntsAt w w.heap.size A1 costs) (h2 : CutsAt w w.heap.size A2 l) :
    Calls Try.prog 19 #[.slice A1 costs.length c1, .slice A2 l.length c2] w (RetFk (uniR costs l) (chk38 costs l) w) := by
  have k1 := fun w1 (hb : Below w.heap.size w w1) => rcheck38_any costs l A1 A2 c1 c2 w1 (h1.up hb) (h2.up hb)
  have l1 := h1.len
  have l2 := h2.len
  by_cases e0 : chk38 costs l = 0
  case neg =>
    have Hr := Lib.hid (show uniR costs l = [] by unfold uniR; rw [if_neg e0])
    have e1 : (chk38 costs l != 0) = true := by simpa using e0
    clear e0
    go_enter Try.func19, Try.ntmps19
    go_wp2_with fail; refine (k1 _ (by repeat (first | exact Below.refl _ _ | refine below_dN ?_ _ | refine Below.drew ?_ | refine Below.alloc ?_ (by first | omega | (simp; done) | (simp; omega)) _ | refine Below.setCell ?_ (by first | omega | (simp; done) | (simp; omega)) _ | refine below_step (by assumption) (by first | omega | (simp; done) | (simp; omega)) ?_))).mono ?_; rintro e w1 ⟨rfl, hb1⟩; obtain ⟨hc1, hf1, hz1, hlt1, hle1⟩ := cellsIf hb1 (by (try simp); exact rfl); (try have : w.heap.size < w1.heap.size := (by omega)); (try have : w.heap.size < w1.heap.size + 1 := (by omega)); (try have : w.heap.size < w1.heap.size + 1 + 1 := (by omega)); (try have : w.heap.size + 1 < w1.heap.size := (by omega)); (try have : w.heap.size + 1 < w1.heap.size + 1 := (by omega)); (try have : w.heap.size + 1 < w1.heap.size + 1 + 1 := (by omega)); (try have : w.heap.size + 1 + 1 < w1.heap.size := (by omega)); (try have : w.heap.size + 1 + 1 < w1.heap.size + 1 := (by omega)); (try have : w.heap.size + 1 + 1 < w1.heap.size + 1 + 1 := (by omega))
    go_wp2
    refine bodyPost_ret (v := .tuple #[.slice none 0 0, .int .i64 (chk38 costs l)]) (by simp [results, Try.results19, go_sem]) rfl ⟨⟨_, rfl, by rw [Hr.out]; exact gotFs_nil _⟩, by repeat (first | exact Below.refl _ _ | refine below_dN ?_ _ | refine Below.drew ?_ | refine Below.alloc ?_ (by first | omega | (simp; done) | (simp; omega)) _ | refine Below.setCell ?_ (by first | omega | (simp; done) | (simp; omega)) _ | refine below_step (by assumption) (by first | omega | (simp; done) | (simp; omega)) ?_)⟩
  have G := Lib.hid (good38 e0)
  have Hr := Lib.hid (show uniR costs l = uniL costs l l.length by unfold uniR; rw [if_pos e0])
  have hm24 := G.out.many
  simp only [e0] at k1
  rw [e0]
  clear e0
  obtain ⟨inf, hi, iz0, iz1, iz2⟩ := info_parts infoC
  go_enter Try.func19, Try.ntmps19
  go_wp2_with fail; refine (k1 _ (by repeat (first | exact Below.refl _ _ | refine below_dN ?_ _ | refine Below.drew ?_ | refine Below.alloc ?_ (by first | omega | (simp; done) | (simp; omega)) _ | refine Below.setCell ?_ (by first | omega | (simp; done) | (simp; omega)) _ | refine below_step (by assumption) (by first | omega | (simp; done) | (simp; omega)) ?_))).mono ?_; rintro e w1 ⟨rfl, hb1⟩; obtain ⟨hc1, hf1, hz1, hlt1, hle1⟩ := cellsIf hb1 (by (try simp); exact rfl); (try have : w.heap.size < w1.heap.size := (by omega)); (try have : w.heap.size < w1.heap.size + 1 := (by omega)); (try have : w.heap.size < w1.heap.size + 1 + 1 := (by omega)); (try have : w.heap.size + 1 < w1.heap.size := (by omega)); (try have : w.heap.size + 1 < w1.heap.size + 1 := (by omega)); (try have : w.heap.size + 1 < w1.heap.size + 1 + 1 := (by omega)); (try have : w.heap.size + 1 + 1 < w1.heap.size := (by omega)); (try have : w.heap.size + 1 + 1 < w1.heap.size + 1 := (by omega)); (try have : w.heap.size + 1 + 1 < w1.heap.size + 1 + 1 := (by omega))
  have hbw : Below w.heap.size w w1 := by repeat (first | exact Below.refl _ _ | refine below_dN ?_ _ | refine Below.drew ?_ | refine Below.alloc ?_ (by first | omega | (simp; done) | (simp; omega)) _ | refine Below.setCell ?_ (by first | omega | (simp; done) | (simp; omega)) _ | refine below_step (by assumption) (by first | omega | (simp; done) | (simp; omega)) ?_)
  clear hc1 hf1 hz1 hlt1 hle1 hb1
  go_wp2
  go_loopw [7, 26] (fun v i wr => ∃ k : Nat, k ≤ l.length ∧ i = .int .i64 k ∧ wr.ownsRow w.heap.size 42 2 v k (fc (uniL costs l k)) ∧ Below w.heap.size w wr) (fun _ i _ => l.length - (intOf i).toNat)
  case atStart => exact ⟨0, by omega, rfl, World.ownsRow_nil _ _ _ _, hbw⟩
  case round =>
    clear hbw
    obtain ⟨k, hk, rfl, hown, hbel⟩ := hrel
    obtain ⟨wt, rfl⟩ : ∃ wt : World, wt = wr := ⟨_, rfl⟩
    by_cases hlt : k < l.length
    · obtain ⟨b, o, S, c, ea, hb, d0, hS, d1⟩ := h2.at2 hbel hlt
      subst ea
      have hbz := hbel.size
      have g2 : b < wt.heap.size := by omega
      have j1 := hS.len
      go_wp2
      go_loopw [34] (fun i wx => ∃ (j : Nat) (p q : Int), j ≤ (cut l k).ops.length ∧ i = .int .i64 j ∧ leaR costs l (cut l k).ops j = (p, q) ∧ Own2 wx (wt.heap.size + 1) p q ∧ Below wt.heap.size wt wx) (fun i _ => (cut l k).ops.length - (intOf i).toNat)
      case atStart => exact ⟨0, 1048576, 1, by omega, rfl, rfl, by constructor <;> first | (simp; done) | (simp; omega), by repeat (first | exact Below.refl _ _ | refine below_dN ?_ _ | refine Below.drew ?_ | refine Below.alloc ?_ (by first | omega | (simp; done) | (simp; omega)) _ | refine Below.setCell ?_ (by first | omega | (simp; done) | (simp; omega)) _ | refine below_step (by assumption) (by first | omega | (simp; done) | (simp; omega)) ?_)⟩
      case round =>
        obtain ⟨j, p, q, hj, rfl, hpq, hq, hbx⟩ := hrel
        obtain ⟨wu, rfl⟩ : ∃ wu : World, wu = wr := ⟨_, rfl⟩
        have Hpq := Lib.hid hpq
        clear hpq
        by_cases hltj : j < (cut l k).ops.length
        · have hbxw := hbel.trans (hbx.mono hbz)
          have hbxz := hbx.size
          obtain ⟨b', o', eS, hb', hc'⟩ := hS.at_ hltj
          subst eS
          have d5 := (hbxw.cell (p := ⟨b', o' + j, none⟩) hb').trans (hc' j hltj)
          clear hc'
          have gop := G.out.op k hlt j hltj
          obtain ⟨p', q', hs1, hs2, hs3⟩ := shF_ok G.out hlt hltj
          have HS := Lib.hid hs1
          obtain ⟨x, hx⟩ : ∃ x : Nat, nth (cut l k).ops j = (x : Int) := ⟨(nth (cut l k).ops j).toNat, by omega⟩
          have hxl : x < costs.length := by omega
          unfold shF at hs1
          rw [hx] at d5 hs1
          simp only [Int.toNat_natCast] at hs1
          have gc := G.out.cost x hxl
          have gn := cnt_le l x l.length
          have k2 := fun W => rnew_any (nth costs x) (cnt l x l.length : Int) W (by omega) (by omega) (by omega) (by omega)
          rw [hs1] at k2
          unfold RetFC at k2
          dsimp only at k2
          have HX := Lib.hid hx
          clear gop gc gn hs1 hs2 hs3 hx
          go_wp2
          go_loopw [13, 40] (fun m i wz => ∃ r : Nat, r ≤ l.length ∧ i = .int .i64 r ∧ m = .int .i64 (cnt l x r) ∧ Below wu.heap.size wu wz) (fun _ i _ => l.length - (intOf i).toNat)
          case atStart => exact ⟨0, by omega, rfl, rfl, Below.refl _ _⟩
          case round =>
            obtain ⟨r, hr, rfl, rfl, hby⟩ := hrel
            have hbyw := hbxw.trans (hby.mono hbxw.size)
            have hbyz := hbyw.size
            by_cases hltr : r < l.length
            · obtain ⟨b2, o2, S2, c3, ea2, hb2, d2, hS2, d3⟩ := h2.at2 hbyw hltr
              cases ea2
              have k4 := fun w4 (hb : Below w.heap.size w w4) => rin_any (cut l r).ops S2 c3 (cut l r).cost x w4 (hS2.keep (fun _ hp => hb.cell hp) hb.size)
              have gm := cnt_le l x r
              have HC : Hid (cnt l x (r + 1) = if inN (cut l r).ops x (cut l r).ops.length then cnt l x r + 1 else cnt l x r) := Lib.hid (show cnt l x (r + 1) = if inB (cut l r) x then cnt l x r + 1 else cnt l x r from rfl)
              have j2 := hS2.len
              cases e1 : inN (cut l r).ops x (cut l r).ops.length
              · rw [e1] at k4
                go_wp2_with fail; refine (k4 _ (by repeat (first | exact Below.refl _ _ | refine below_dN ?_ _ | refine Below.drew ?_ | refine Below.alloc ?_ (by first | omega | (simp; done) | (simp; omega)) _ | refine Below.setCell ?_ (by first | omega | (simp; done) | (simp; omega)) _ | refine below_step (by assumption) (by first | omega | (simp; done) | (simp; omega)) ?_))).mono ?_; rintro e w4 ⟨rfl, hb4⟩; obtain ⟨hc4, hf4, hz4, hlt4, hle4⟩ := cellsIf hb4 (by (try simp); exact rfl)
                have hb4w := hby.trans ((show Below wr.heap.size wr w4 by repeat (first | exact Below.refl _ _ | refine below_dN ?_ _ | refine Below.drew ?_ | refine Below.alloc ?_ (by first | omega | (simp; done) | (simp; omega)) _ | refine Below.setCell ?_ (by first | omega | (simp; done) | (simp; omega)) _ | refine below_step (by assumption) (by first | omega | (simp; done) | (simp; omega)) ?_)).mono hby.size)
                go_wp2
                go_roundw
                case rel => exact ⟨r + 1, by omega, by go_num, (by rw [HC.out, e1]; rfl), hb4w⟩
                case measure => simp [intOf]; omega
              · rw [e1] at k4
                go_wp2_with fail; refine (k4 _ (by repeat (first | exact Below.refl _ _ | refine below_dN ?_ _ | refine Below.drew ?_ | refine Below.alloc ?_ (by first | omega | (simp; done) | (simp; omega)) _ | refine Below.setCell ?_ (by first | omega | (simp; done) | (simp; omega)) _ | refine below_step (by assumption) (by first | omega | (simp; done) | (simp; omega)) ?_))).mono ?_; rintro e w4 ⟨rfl, hb4⟩; obtain ⟨hc4, hf4, hz4, hlt4, hle4⟩ := cellsIf hb4 (by (try simp); exact rfl)
                have hb4w := hby.trans ((show Below wr.heap.size wr w4 by repeat (first | exact Below.refl _ _ | refine below_dN ?_ _ | refine Below.drew ?_ | refine Below.alloc ?_ (by first | omega | (simp; done) | (simp; omega)) _ | refine Below.setCell ?_ (by first | omega | (simp; done) | (simp; omega)) _ | refine below_step (by assumption) (by first | omega | (simp; done) | (simp; omega)) ?_)).mono hby.size)
                go_wp2
                go_roundw
                case rel => exact ⟨r + 1, by omega, by go_num, (by rw [HC.out, e1]; go_num), hb4w⟩
                case measure => simp [intOf]; omega
            · obtain rfl : r = l.length := by omega
              obtain ⟨b1, o1, eA, hb1, d6⟩ := h1.at2 hbyw hxl
              subst eA
              have x0 : (0 : Int) ≤ (x : Int) := by omega
              have x1 : (x : Int) < (costs.length : Int) := by omega
              have k3 := fun W => rcmp_any p' q' p q W
              have HL := Lib.hid (show leaR costs l (cut l k).ops (j + 1) = if cmpF p' q' p q < 0 then (p', q') else (p, q) by rw [leaR_succ, HS.out, Hpq.out])
              generalize cmpF p' q' p q = cv at k3 HL
              have hq2 := hq.up hby
              go_wp2_with fail; refine (k2 _).mono ?_; rintro e w5 ⟨rfl, hb5⟩; obtain ⟨hc5, hf5, hz5, hlt5, hle5⟩ := cellsIf hb5 (by (try simp); exact rfl)
              have hb5w : Below wr.heap.size wr w5 := by repeat (first | exact Below.refl _ _ | refine below_dN ?_ _ | refine Below.drew ?_ | refine Below.alloc ?_ (by first | omega | (simp; done) | (simp; omega)) _ | refine Below.setCell ?_ (by first | omega | (simp; done) | (simp; omega)) _ | refine below_step (by assumption) (by first | omega | (simp; done) | (simp; omega)) ?_)
              have hq5 := hq2.up hb5w
              obtain ⟨s0, s1, s2, s3, s4⟩ := id hq5
              have hby5 := hby.trans (hb5w.mono hby.size)
              have hbx5 := hbx.trans (hby5.mono hbxz)
              have s5 := hbx5.size
              clear hc5 hf5 hlt5 hle5 d5 k2
              by_cases hcv : cv < 0
              · have c0 : decide (cv < 0) = true := by simpa using hcv
                have HL2 := Lib.hid (HL.out.trans (if_pos hcv))
                clear hcv
                go_wp2_with fail; refine (k3 _).mono ?_; rintro e w7 ⟨rfl, hb7⟩; obtain ⟨hc7, hf7, hz7, hlt7, hle7⟩ := cellsIf hb7 (by (try simp); exact rfl)
                have hb75 : Below w5.heap.size w5 w7 := by repeat (first | exact Below.refl _ _ | refine below_dN ?_ _ | refine Below.drew ?_ | refine Below.alloc ?_ (by first | omega | (simp; done) | (simp; omega)) _ | refine Below.setCell ?_ (by first | omega | (simp; done) | (simp; omega)) _ | refine below_step (by assumption) (by first | omega | (simp; done) | (simp; omega)) ?_)
                have hq7 := hq5.up hb75
                have ho7 : Own2 w7 w5.heap.size p' q' := Own2.up Own2.new hb7
                obtain ⟨t0, t1, t2, t3, t4⟩ := id ho7
                obtain ⟨s0, s1, s2, s3, s4⟩ := id hq7
                have hb7w := hbx5.trans (hb75.mono hbx5.size)
                clear hc7 hf7 hlt7 hle7
                go_wp2
                go_roundw
                case rel => exact ⟨j + 1, p', q', by omega, by go_num, HL2.out, hq7.put, by repeat (first | exact Below.refl _ _ | refine below_dN ?_ _ | refine Below.drew ?_ | refine Below.alloc ?_ (by first | omega | (simp; done) | (simp; omega)) _ | refine Below.setCell ?_ (by first | omega | (simp; done) | (simp; omega)) _ | refine below_step (by assumption) (by first | omega | (simp; done) | (simp; omega)) ?_)⟩
                case measure => simp [intOf]; omega
              · have c0 : decide (cv < 0) = false := by simpa using hcv
                have HL2 := Lib.hid (HL.out.trans (if_neg hcv))
                clear hcv
                go_wp2_with fail; refine (k3 _).mono ?_; rintro e w7 ⟨rfl, hb7⟩; obtain ⟨hc7, hf7, hz7, hlt7, hle7⟩ := cellsIf hb7 (by (try simp); exact rfl)
                have hb75 : Below w5.heap.size w5 w7 := by repeat (first | exact Below.refl _ _ | refine below_dN ?_ _ | refine Below.drew ?_ | refine Below.alloc ?_ (by first | omega | (simp; done) | (simp; omega)) _ | refine Below.setCell ?_ (by first | omega | (simp; done) | (simp; omega)) _ | refine below_step (by assumption) (by first | omega | (simp; done) | (simp; omega)) ?_)
                have hq7 := hq5.up hb75
                have hb7w := hbx5.trans (hb75.mono hbx5.size)
                clear hc7 hf7 hlt7 hle7
                go_wp2
                go_roundw
                case rel => exact ⟨j + 1, p, q, by omega, by go_num, HL2.out, hq7, hb7w⟩
                case measure => simp [intOf]; omega
        · obtain rfl : j = (cut l k).ops.length := by omega
          have HU := Lib.hid (show fc (uniL costs l (k + 1)) = fc (uniL costs l k) ++ [.int .i64 p, .int .i64 q] by rw [uniL_succ, fc_app, Hpq.out]; rfl)
          have hown2 := own_below hown hbx
          obtain ⟨s0, s1, s2, s3, s4⟩ := id hq
          have hbxw := hbel.trans (hbx.mono hbz)
          have hbxz := hbx.size
          go_wp2_with (at_builtin; refine wpList_push rfl _ _ 26 rfl w.heap.size 42 inf (.agg #[.int .i64 0, .int .i64 0]) 2 16 undC hi iz0 iz1 iz2 rfl (by decide) (by decide) u7 k (fc (uniL costs l k)) rfl (hown2.alloc _) wu.heap.size 42 [.int .i64 p, .int .i64 q] rfl rfl (heap_alloc_new _ _) (two_one rfl rfl) (by omega) (by first | omega | (simp; omega)) (B := w.heap.size) (W := w) (by repeat (first | exact Below.refl _ _ | refine below_dN ?_ _ | refine Below.drew ?_ | refine Below.alloc ?_ (by first | omega | (simp; done) | (simp; omega)) _ | refine Below.setCell ?_ (by first | omega | (simp; done) | (simp; omega)) _ | refine below_step (by assumption) (by first | omega | (simp; done) | (simp; omega)) ?_)) (Nat.le_refl _) ?_; intro v' w6 hown' hgrow hat hbw6; have Hown := Lib.hid hown'; clear hown' hgrow hat)
          go_roundw
          case rel => exact ⟨k + 1, by omega, by go_num, by rw [HU.out]; exact Hown.out, hbw6⟩
          case measure => simp [intOf]; omega
    · obtain rfl : k = l.length := by omega
      obtain ⟨A, d, rfl, hAd, hfa⟩ := gotFs_own hown (uniL_len _ _ _) (by rw [uniL_len]; omega)
      have Hg := Lib.hid (show GotFs wt (.slice A (uniL costs l l.length).length d) (uniL costs l l.length) from ⟨A, d, rfl, hAd, hfa⟩)
      clear hAd hfa hown
      go_wp2
      refine bodyPost_ret (v := .tuple #[.slice A (uniL costs l l.length).length d, .int .i64 0]) (by simp [results, Try.results19, go_sem]) rfl ⟨⟨_, rfl, by rw [Hr.out]; exact Hg.out⟩, by repeat (first | exact Below.refl _ _ | refine below_dN ?_ _ | refine Below.drew ?_ | refine Below.alloc ?_ (by first | omega | (simp; done) | (simp; omega)) _ | refine Below.setCell ?_ (by first | omega | (simp; done) | (simp; omega)) _ | refine below_step (by assumption) (by first | omega | (simp; done) | (simp; omega)) ?_)⟩

end Go.Proofs.Ytknnmglaaiimiaa

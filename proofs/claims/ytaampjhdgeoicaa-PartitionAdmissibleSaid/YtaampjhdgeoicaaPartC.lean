/- partition.Uniform. -/
import Derived.Test.YtaampjhdgeoicaaPartA
import Derived.Test.YtaampjhdgeoicaaPartB
import Derived.Test.YtaampjhdgeoicaaMfC
import Derived.LoopTactic
import Derived.Deep.RegionHeld3
import Derived.Deep.LoopGhost
import Derived.Deep.DeepCutAuto
namespace Go.Proofs.Ytaampjhdgeoicaa
set_option linter.unusedSimpArgs false
set_option linter.unusedVariables false
open Go.RowKit
set_option linter.unusedVariables false

theorem infoI : (Try.prog.info? 3).map (fun i => (i.zero, i.size, i.bytes)) = some (some (.int .i64 0), 1, 8) := by kernel_rfl
theorem undI : Try.prog.underlying 38 = some (.slice 3) := by kernel_rfl
theorem manyV_bd (l : List Cut) (k i j : Nat) : 0 ≤ manyV l k i j ∧ manyV l k i j ≤ (k : Int) + 1 := by
  have := cnt_le l j k
  unfold manyV; split <;> omega
theorem gotFs_own {w : World} {B : Nat} {v : Value} {l : List (Int × Int)} {n : Nat} (h : w.ownsRow B 29 2 v n (fc l)) (hn : l.length = n) (hl : l.length ≤ 140737488355328) : GotFs w v l := by
  subst hn; exact own_fracs h hl

set_option maxRecDepth 100000 in
set_option maxHeartbeats 8000000 in
theorem uniform_any (costs : List Int) (l : List Cut) (A1 A2 : Option Addr) (c1 c2 : Nat) (w : World) (h1 : IntsAt w w.heap.size A1 costs) (h2 : CutsAt w w.heap.size A2 l) (hn : costs.length ≤ 100000) :
    Calls Try.prog 36 #[.slice A1 costs.length c1, .slice A2 l.length c2] w (RetFs (uniR costs l) (errV (chk38 costs l)) w) := by
  have k1 := fun w1 (hb : Below w.heap.size w w1) => check38_any costs l A1 A2 c1 c2 w1 (h1.up hb) (h2.up hb)
  have l1 := h1.len
  have l2 := h2.len
  by_cases e0 : chk38 costs l = 0
  case neg =>
    have Hr := Lib.hid (show uniR costs l = [] by unfold uniR; rw [if_neg e0])
    have He := Lib.hid (errV_ne e0)
    simp only [He.out] at k1
    clear e0
    go_enter Try.func36, Try.ntmps36
    go_wp2_with fail; refine (k1 _ (by repeat (first | exact Below.refl _ _ | refine below_dN ?_ _ | refine Below.drew ?_ | refine Below.alloc ?_ (by first | omega | (simp; done) | (simp; omega)) _ | refine Below.setCell ?_ (by first | omega | (simp; done) | (simp; omega)) _ | refine below_step (by assumption) (by first | omega | (simp; done) | (simp; omega)) ?_))).mono ?_; rintro e w1 ⟨rfl, hb1⟩; obtain ⟨hc1, hf1, hz1, hlt1, hle1⟩ := cellsIf hb1 (by (try simp); exact rfl); (try have : w.heap.size < w1.heap.size := (by omega)); (try have : w.heap.size < w1.heap.size + 1 := (by omega)); (try have : w.heap.size < w1.heap.size + 1 + 1 := (by omega)); (try have : w.heap.size + 1 < w1.heap.size := (by omega)); (try have : w.heap.size + 1 < w1.heap.size + 1 := (by omega)); (try have : w.heap.size + 1 < w1.heap.size + 1 + 1 := (by omega)); (try have : w.heap.size + 1 + 1 < w1.heap.size := (by omega)); (try have : w.heap.size + 1 + 1 < w1.heap.size + 1 := (by omega)); (try have : w.heap.size + 1 + 1 < w1.heap.size + 1 + 1 := (by omega))
    go_wp2
    refine bodyPost_ret (v := .tuple #[.slice none 0 0, .iface 68 (.int .i64 (chk38 costs l))]) (by simp [results, Try.results36, go_sem]) rfl ⟨⟨_, by rw [He.out], by rw [Hr.out]; exact gotFs_nil _⟩, by repeat (first | exact Below.refl _ _ | refine below_dN ?_ _ | refine Below.drew ?_ | refine Below.alloc ?_ (by first | omega | (simp; done) | (simp; omega)) _ | refine Below.setCell ?_ (by first | omega | (simp; done) | (simp; omega)) _ | refine below_step (by assumption) (by first | omega | (simp; done) | (simp; omega)) ?_)⟩
  have G := Lib.hid (good38 e0)
  have Hr := Lib.hid (show uniR costs l = uniL costs l l.length by unfold uniR; rw [if_pos e0])
  have hm24 := G.out.many
  simp only [e0, errV_0] at k1
  rw [e0, errV_0]
  clear e0
  have hmk := run_make_row' (P := Try.prog) 38 3 (.int .i64 0) 8 undI infoI rfl .i64 .i64 costs.length (by omega) (by omega)
  obtain ⟨inf, hi, iz0, iz1, iz2⟩ := info_parts infoC
  go_enter Try.func36, Try.ntmps36
  go_wp2_with fail; refine (k1 _ (by repeat (first | exact Below.refl _ _ | refine below_dN ?_ _ | refine Below.drew ?_ | refine Below.alloc ?_ (by first | omega | (simp; done) | (simp; omega)) _ | refine Below.setCell ?_ (by first | omega | (simp; done) | (simp; omega)) _ | refine below_step (by assumption) (by first | omega | (simp; done) | (simp; omega)) ?_))).mono ?_; rintro e w1 ⟨rfl, hb1⟩; obtain ⟨hc1, hf1, hz1, hlt1, hle1⟩ := cellsIf hb1 (by (try simp); exact rfl); (try have : w.heap.size < w1.heap.size := (by omega)); (try have : w.heap.size < w1.heap.size + 1 := (by omega)); (try have : w.heap.size < w1.heap.size + 1 + 1 := (by omega)); (try have : w.heap.size + 1 < w1.heap.size := (by omega)); (try have : w.heap.size + 1 < w1.heap.size + 1 := (by omega)); (try have : w.heap.size + 1 < w1.heap.size + 1 + 1 := (by omega)); (try have : w.heap.size + 1 + 1 < w1.heap.size := (by omega)); (try have : w.heap.size + 1 + 1 < w1.heap.size + 1 := (by omega)); (try have : w.heap.size + 1 + 1 < w1.heap.size + 1 + 1 := (by omega))
  have hbw : Below w.heap.size w w1 := by repeat (first | exact Below.refl _ _ | refine below_dN ?_ _ | refine Below.drew ?_ | refine Below.alloc ?_ (by first | omega | (simp; done) | (simp; omega)) _ | refine Below.setCell ?_ (by first | omega | (simp; done) | (simp; omega)) _ | refine below_step (by assumption) (by first | omega | (simp; done) | (simp; omega)) ?_)
  have hz := hbw.size
  have Hbw := Lib.hid hbw
  clear hc1 hf1 hz1 hlt1 hle1 hb1 hbw
  go_wp2
  clear hmk
  go_loopw [31] (fun i wr => ∃ k : Nat, k ≤ l.length ∧ i = .int .i64 k ∧ wr.rowIs w1.heap.size 3 costs.length (fun j => .int .i64 (manyV l k 0 j)) ∧ Below w.heap.size w wr) (fun i _ => l.length - (intOf i).toNat)
  case atStart => exact ⟨0, by omega, rfl, (World.rowIs_made w1 (.int .i64 0) costs.length 3).congr fun j _ => rfl, Hbw.out.alloc hz _⟩
  case round =>
    obtain ⟨k, hk, rfl, hrow, hbel⟩ := hrel
    by_cases hlt : k < l.length
    · obtain ⟨b, o, S, c, ea, hb, d0, hS, d1⟩ := h2.at2 hbel hlt
      subst ea
      have hbz := hbel.size
      have g2 : b < wr.heap.size := by omega
      have j1 := hS.len
      go_wp2
      go_loopw [38] (fun i wx => ∃ j : Nat, j ≤ (cut l k).ops.length ∧ i = .int .i64 j ∧ wx.rowIs w1.heap.size 3 costs.length (fun y => .int .i64 (manyV l k j y)) ∧ Below w.heap.size w wx) (fun i _ => (cut l k).ops.length - (intOf i).toNat)
      case atStart => exact ⟨0, by omega, rfl, hrow.alloc _, by repeat (first | exact Below.refl _ _ | refine below_dN ?_ _ | refine Below.drew ?_ | refine Below.alloc ?_ (by first | omega | (simp; done) | (simp; omega)) _ | refine Below.setCell ?_ (by first | omega | (simp; done) | (simp; omega)) _ | refine below_step (by assumption) (by first | omega | (simp; done) | (simp; omega)) ?_)⟩
      case round =>
        obtain ⟨j, hj, rfl, hrow2, hbx⟩ := hrel
        by_cases hltj : j < (cut l k).ops.length
        · obtain ⟨b', o', eS, hb', hc'⟩ := hS.at_ hltj
          subst eS
          have d5 := (hbx.cell (p := ⟨b', o' + j, none⟩) hb').trans (hc' j hltj)
          clear hc'
          have gop := G.out.op k hlt j hltj
          obtain ⟨x, hx⟩ : ∃ x : Nat, nth (cut l k).ops j = (x : Int) := ⟨(nth (cut l k).ops j).toNat, by omega⟩
          have HX := Lib.hid (manyV_succ (fun i hi h0 => (G.out.op k hlt i hi).2.2 h0) hltj hx)
          rw [hx] at d5 gop
          have hxl : x < costs.length := by omega
          have q0 := hrow2.cell hxl
          have q1 := hrow2.frozen x
          obtain ⟨q2, q3⟩ := manyV_bd l k j x
          clear gop hx
          go_wp2
          go_roundw
          case rel => exact ⟨j + 1, by omega, by go_num, (hrow2.set x _).congr fun y _ => (by rw [HX.out y]; by_cases e : y = x <;> simp [e]), by repeat (first | exact Below.refl _ _ | refine below_dN ?_ _ | refine Below.drew ?_ | refine Below.alloc ?_ (by first | omega | (simp; done) | (simp; omega)) _ | refine Below.setCell ?_ (by first | omega | (simp; done) | (simp; omega)) _ | refine below_step (by assumption) (by first | omega | (simp; done) | (simp; omega)) ?_)⟩
          case measure => simp [intOf]; omega
        · obtain rfl : j = (cut l k).ops.length := by omega
          go_wp2
          go_roundw
          case rel => exact ⟨k + 1, by omega, by go_num, hrow2.congr fun y _ => (by rw [manyV_end, manyV_zero]), by repeat (first | exact Below.refl _ _ | refine below_dN ?_ _ | refine Below.drew ?_ | refine Below.alloc ?_ (by first | omega | (simp; done) | (simp; omega)) _ | refine Below.setCell ?_ (by first | omega | (simp; done) | (simp; omega)) _ | refine below_step (by assumption) (by first | omega | (simp; done) | (simp; omega)) ?_)⟩
          case measure => simp [intOf]; omega
    · obtain rfl : k = l.length := by omega
      clear hlt hk
      go_wp2
      go_loopw [12, 52] (fun v i wt => ∃ k : Nat, k ≤ l.length ∧ i = .int .i64 k ∧ wt.ownsRow w.heap.size 29 2 v k (fc (uniL costs l k)) ∧ wt.rowIs w1.heap.size 3 costs.length (fun j => .int .i64 (cnt l j l.length)) ∧ Below w.heap.size w wt) (fun _ i _ => l.length - (intOf i).toNat)
      case atStart => exact ⟨0, by omega, rfl, World.ownsRow_nil _ _ _ _, hrow.congr fun y _ => (by rw [manyV_zero]), hbel⟩
      case round =>
        clear hrow hbel
        obtain ⟨k, hk, rfl, hown, hrow, hbel⟩ := hrel
        obtain ⟨wt, rfl⟩ : ∃ wt : World, wt = wr := ⟨_, rfl⟩
        by_cases hlt : k < l.length
        · obtain ⟨b, o, S, c, ea, hb, d0, hS, d1⟩ := h2.at2 hbel hlt
          subst ea
          have hbz := hbel.size
          have g2 : b < wt.heap.size := by omega
          have j1 := hS.len
          have hrz := hrow.lt
          go_wp2
          go_loopw [59] (fun i wr => ∃ (j : Nat) (p q : Int), j ≤ (cut l k).ops.length ∧ i = .int .i64 j ∧ leaP costs l (cut l k).ops j = (p, q) ∧ Own2 wr (wt.heap.size + 1) p q ∧ Below wt.heap.size wt wr) (fun i _ => (cut l k).ops.length - (intOf i).toNat)
          case atStart => exact ⟨0, 0, 0, by omega, rfl, rfl, by constructor <;> first | (simp; done) | (simp; omega), by repeat (first | exact Below.refl _ _ | refine below_dN ?_ _ | refine Below.drew ?_ | refine Below.alloc ?_ (by first | omega | (simp; done) | (simp; omega)) _ | refine Below.setCell ?_ (by first | omega | (simp; done) | (simp; omega)) _ | refine below_step (by assumption) (by first | omega | (simp; done) | (simp; omega)) ?_)⟩
          case round =>
            obtain ⟨j, p, q, hj, rfl, hpq, hq, hbx⟩ := hrel
            have Hpq := Lib.hid hpq
            clear hpq
            obtain ⟨s0, s1, s2, s3, s4⟩ := id hq
            by_cases hltj : j < (cut l k).ops.length
            · have hbxw := hbel.trans (hbx.mono hbz)
              have hbxz := hbx.size
              obtain ⟨b', o', eS, hb', hc'⟩ := hS.at_ hltj
              subst eS
              have d5 := (hbxw.cell (p := ⟨b', o' + j, none⟩) hb').trans (hc' j hltj)
              clear hc'
              have gop := G.out.op k hlt j hltj
              obtain ⟨p', q', hs1, hs2, hs3⟩ := shF_ok G.out hlt hltj
              have HS := Lib.hid hs1
              obtain ⟨x, hx⟩ : ∃ x : Nat, nth (cut l k).ops j = (x : Int) := ⟨(nth (cut l k).ops j).toNat, by omega⟩
              have hxl : x < costs.length := by omega
              unfold shF at hs1
              rw [hx] at d5 hs1
              simp only [Int.toNat_natCast] at hs1
              have q0 := (row_up hrow hbx).cell hxl
              obtain ⟨b1, o1, eA, hb1, d6⟩ := h1.at2 hbxw hxl
              subst eA
              have gc := G.out.cost x hxl
              have gn := cnt_le l x l.length
              have k2 := fun W => new_any (nth costs x) (cnt l x l.length : Int) W (by omega) (by omega) (by omega) (by omega)
              rw [hs1] at k2
              unfold RetFE at k2
              simp only [errV_0] at k2
              have x0 : (0 : Int) ≤ (x : Int) := by omega
              have x1 : (x : Int) < (costs.length : Int) := by omega
              have g4 : b1 < wr.heap.size := by omega
              have g5 : w1.heap.size < wr.heap.size := by omega
              clear gop gc gn hs1 hs2 hs3 hx
              go_upto_region 22 with fail
              go_cut [18, 19] (fun v18 v19 wy => ∃ b6, v18 = .pointer (some ⟨b6, 0, none⟩) ∧ v19 = .nilIface ∧ Own2 wy b6 p' q' ∧ wr.heap.size ≤ b6 ∧ Below wr.heap.size wr wy)
              case first =>
                go_wp2_with fail
                go_region_held3 (fun w' => w'.cell? ⟨b1, o1 + x, none⟩ = some (.int .i64 (nth costs x)) ∧ w'.cell? ⟨w1.heap.size, x, none⟩ = some (.int .i64 (cnt l x l.length))) (first | go_keep | (refine ⟨?_, ?_⟩ <;> (first | assumption | (rw [World.cell?_setCell_other _ _ _ _ (by first | (simp; done) | (simp; omega)), World.cell?_setCell_other _ _ _ _ (by first | (simp; done) | (simp; omega))]; first | assumption | (simp [*]; done) | (rw [World.cell?_alloc_past _ _ _ _ _ (by omega)]; assumption)) | (simp [*, World.cell?_alloc_some]; done) | (rw [World.cell?_alloc_past _ _ _ _ _ (by omega)]; assumption)))) (first | (go_at_call 63; refine (k2 _).mono ?_; rintro e w2 ⟨rfl, hb2⟩; have hbw2 : Below wr.heap.size wr w2 := (by repeat (first | exact Below.refl _ _ | refine below_dN ?_ _ | refine Below.drew ?_ | refine Below.alloc ?_ (by first | omega | (simp; done) | (simp; omega)) _ | refine Below.setCell ?_ (by first | omega | (simp; done) | (simp; omega)) _ | refine below_step (by assumption) (by first | omega | (simp; done) | (simp; omega)) ?_)); have z1 := (hbw2.cell (p := ⟨b1, o1 + x, none⟩) g4).trans d6; have z2 := (hbw2.cell (p := ⟨w1.heap.size, x, none⟩) g5).trans q0; have z5 := hbw2.size; obtain ⟨hc2, hf2, hz2, hlt2, hle2⟩ := cellsIf hb2 (by (try simp); exact rfl)))
                all_goals (go_wp2; go_meet)
                all_goals first
                  | exact ⟨_, rfl, rfl, Own2.new, by omega, by repeat (first | exact Below.refl _ _ | refine below_dN ?_ _ | refine Below.drew ?_ | refine Below.alloc ?_ (by first | omega | (simp; done) | (simp; omega)) _ | refine Below.setCell ?_ (by first | omega | (simp; done) | (simp; omega)) _ | refine below_step (by assumption) (by first | omega | (simp; done) | (simp; omega)) ?_)⟩
                  | exact ⟨_, rfl, rfl, Own2.put (Own2.up (Own2.drew Own2.new) hb2), by omega, by repeat (first | exact Below.refl _ _ | refine below_dN ?_ _ | refine Below.drew ?_ | refine Below.alloc ?_ (by first | omega | (simp; done) | (simp; omega)) _ | refine Below.setCell ?_ (by first | omega | (simp; done) | (simp; omega)) _ | refine below_step (by assumption) (by first | omega | (simp; done) | (simp; omega)) ?_)⟩
              case rest =>
                obtain ⟨b6, rfl, rfl, ho6, hb6, hbxy⟩ := hcut
                clear k2 q0 d6 d5
                have hq' := hq.up hbxy
                obtain ⟨t0, t1, t2, t3, t4⟩ := id ho6
                obtain ⟨s0, s1, s2, s3, s4⟩ := id hq'
                have hbwy := hbx.trans (hbxy.mono hbxz)
                by_cases hj0 : j = 0
                · have z0 : ((j : Int) == 0) = true := by simp [hj0]
                  have HL := Lib.hid (show leaP costs l (cut l k).ops (j + 1) = (p', q') by unfold leaP; rw [HS.out, if_pos (.inl hj0)])
                  clear hj0
                  go_wp2
                  go_roundw
                  case rel => exact ⟨j + 1, p', q', by omega, by go_num, HL.out, hq'.put, by repeat (first | exact Below.refl _ _ | refine below_dN ?_ _ | refine Below.drew ?_ | refine Below.alloc ?_ (by first | omega | (simp; done) | (simp; omega)) _ | refine Below.setCell ?_ (by first | omega | (simp; done) | (simp; omega)) _ | refine below_step (by assumption) (by first | omega | (simp; done) | (simp; omega)) ?_)⟩
                  case measure => simp [intOf]; omega
                · have z0 : ((j : Int) == 0) = false := by rw [beq_eq_false_iff_ne]; omega
                  have Hj := Lib.hid hj0
                  have k3 := fun W => cmp_any p' q' p q W
                  have HL := Lib.hid (show leaP costs l (cut l k).ops (j + 1) = if cmpF p' q' p q < 0 then (p', q') else (p, q) by unfold leaP; rw [HS.out, Hpq.out]; simp only [hj0, false_or])
                  clear hj0
                  generalize cmpF p' q' p q = cv at k3 HL
                  by_cases hcv : cv < 0
                  · have c0 : decide (cv < 0) = true := by simpa using hcv
                    have HL2 := Lib.hid (HL.out.trans (if_pos hcv))
                    clear hcv
                    go_wp2_with fail; refine (k3 _).mono ?_; rintro e w7 ⟨rfl, hb7⟩; obtain ⟨hc7, hf7, hz7, hlt7, hle7⟩ := cellsIf hb7 (by (try simp); exact rfl)
                    have hq7 := hq'.up hb7
                    have ho7 := ho6.up hb7
                    obtain ⟨t0, t1, t2, t3, t4⟩ := id ho7
                    obtain ⟨s0, s1, s2, s3, s4⟩ := id hq7
                    have hb7w := hbwy.trans (hb7.mono hbwy.size)
                    clear hc7 hf7 hlt7 hle7
                    go_wp2
                    go_roundw
                    case rel => exact ⟨j + 1, p', q', by omega, by go_num, HL2.out, hq7.put, by repeat (first | exact Below.refl _ _ | refine below_dN ?_ _ | refine Below.drew ?_ | refine Below.alloc ?_ (by first | omega | (simp; done) | (simp; omega)) _ | refine Below.setCell ?_ (by first | omega | (simp; done) | (simp; omega)) _ | refine below_step (by assumption) (by first | omega | (simp; done) | (simp; omega)) ?_)⟩
                    case measure => simp [intOf]; omega
                  · have c0 : decide (cv < 0) = false := by simpa using hcv
                    have HL2 := Lib.hid (HL.out.trans (if_neg hcv))
                    clear hcv
                    go_wp2_with fail; refine (k3 _).mono ?_; rintro e w7 ⟨rfl, hb7⟩; obtain ⟨hc7, hf7, hz7, hlt7, hle7⟩ := cellsIf hb7 (by (try simp); exact rfl)
                    have hq7 := hq'.up hb7
                    have hb7w := hbwy.trans (hb7.mono hbwy.size)
                    clear hc7 hf7 hlt7 hle7
                    go_wp2
                    go_roundw
                    case rel => exact ⟨j + 1, p, q, by omega, by go_num, HL2.out, hq7, by repeat (first | exact Below.refl _ _ | refine below_dN ?_ _ | refine Below.drew ?_ | refine Below.alloc ?_ (by first | omega | (simp; done) | (simp; omega)) _ | refine Below.setCell ?_ (by first | omega | (simp; done) | (simp; omega)) _ | refine below_step (by assumption) (by first | omega | (simp; done) | (simp; omega)) ?_)⟩
                    case measure => simp [intOf]; omega
            · obtain rfl : j = (cut l k).ops.length := by omega
              have HU := Lib.hid (show fc (uniL costs l (k + 1)) = fc (uniL costs l k) ++ [.int .i64 p, .int .i64 q] by rw [uniL_succ, fc_app, ← lea_eq G.out hlt _ (G.out.some k hlt) (Nat.le_refl _), Hpq.out]; rfl)
              have hown2 := own_below hown hbx
              have hrow2 := row_up hrow hbx
              have hbxw := hbel.trans (hbx.mono hbz)
              have hbxz := hbx.size
              go_wp2_with (at_builtin; refine wpList_push rfl _ _ 22 rfl w.heap.size 29 inf (.agg #[.int .i64 0, .int .i64 0]) 2 16 undC hi iz0 iz1 iz2 rfl (by decide) (by decide) u12 k (fc (uniL costs l k)) rfl (hown2.alloc _) wr.heap.size 29 [.int .i64 p, .int .i64 q] rfl rfl (heap_alloc_new _ _) (two_one rfl rfl) (by omega) (by first | omega | (simp; omega)) (B := w.heap.size) (W := w) (by repeat (first | exact Below.refl _ _ | refine below_dN ?_ _ | refine Below.drew ?_ | refine Below.alloc ?_ (by first | omega | (simp; done) | (simp; omega)) _ | refine Below.setCell ?_ (by first | omega | (simp; done) | (simp; omega)) _ | refine below_step (by assumption) (by first | omega | (simp; done) | (simp; omega)) ?_)) (Nat.le_refl _) ?_; intro v' w6 hown' hgrow hat hbw6; have hrow6 := row_grown (hrow2.alloc _) hgrow (row_own_ne hrow2 hown2 (by decide)); have Hown := Lib.hid hown'; have Hrow := Lib.hid hrow6; clear hown' hgrow hat hrow6)
              go_roundw
              case rel => exact ⟨k + 1, by omega, by go_num, by rw [HU.out]; exact Hown.out, Hrow.out, hbw6⟩
              case measure => simp [intOf]; omega
        · obtain rfl : k = l.length := by omega
          obtain ⟨A, d, rfl, hAd, hfa⟩ := gotFs_own hown (uniL_len _ _ _) (by rw [uniL_len]; omega)
          have Hg := Lib.hid (show GotFs wt (.slice A (uniL costs l l.length).length d) (uniL costs l l.length) from ⟨A, d, rfl, hAd, hfa⟩)
          clear hAd hfa hown
          go_wp2
          refine bodyPost_ret (v := .tuple #[.slice A (uniL costs l l.length).length d, .nilIface]) (by simp [results, Try.results36, go_sem]) rfl ⟨⟨_, rfl, by rw [Hr.out]; exact Hg.out⟩, by repeat (first | exact Below.refl _ _ | refine below_dN ?_ _ | refine Below.drew ?_ | refine Below.alloc ?_ (by first | omega | (simp; done) | (simp; omega)) _ | refine Below.setCell ?_ (by first | omega | (simp; done) | (simp; omega)) _ | refine below_step (by assumption) (by first | omega | (simp; done) | (simp; omega)) ?_)⟩

end Go.Proofs.Ytaampjhdgeoicaa

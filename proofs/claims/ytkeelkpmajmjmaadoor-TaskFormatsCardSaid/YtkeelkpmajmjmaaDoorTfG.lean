/- The reference's Format. -/
import Derived.Test.YtkeelkpmajmjmaaDoorRegA
import Derived.Test.YtkeelkpmajmjmaaDoorTfF
import Derived.Test.YtkeelkpmajmjmaaDoorTaskE
namespace Go.Proofs.YtkeelkpmajmjmaaDoor
set_option linter.unusedSimpArgs false
set_option linter.unusedVariables false
open Go Go.RowKit
set_option linter.unusedVariables false

theorem b10 : (⟨#[10]⟩ : ByteArray) = bs [10] := rfl
theorem hd_cat (t : Tsk) : (⟨#[118, 97, 114, 115]⟩ : ByteArray) ++ bs (nuL t.vars t.vars.length) ++ ⟨#[10]⟩ ++ (⟨#[105, 110, 105, 116]⟩ ++ bs (nuL t.init t.init.length)) ++ ⟨#[10]⟩ ++ (⟨#[103, 111, 97, 108]⟩ ++ bs (faL t.goal t.goal.length)) ++ ⟨#[10]⟩ = bs (fmH t) := by
  rw [show (⟨#[118, 97, 114, 115]⟩ : ByteArray) = bs [118, 97, 114, 115] from rfl, show (⟨#[105, 110, 105, 116]⟩ : ByteArray) = bs [105, 110, 105, 116] from rfl, show (⟨#[103, 111, 97, 108]⟩ : ByteArray) = bs [103, 111, 97, 108] from rfl, b10]
  simp only [bs_app]
  apply congrArg bs
  unfold fmH
  simp
theorem ro_cat (l : List UInt8) (o : Opr) : bs l ++ ((⟨#[111, 112, 32]⟩ : ByteArray) ++ itB o.cost ++ ⟨#[32]⟩ ++ o.name ++ ⟨#[10]⟩ ++ (⟨#[112, 114, 101]⟩ ++ bs (faL o.pre o.pre.length)) ++ ⟨#[10]⟩) = bs (l ++ opL o 0) := by
  rw [show (⟨#[111, 112, 32]⟩ : ByteArray) = bs [111, 112, 32] from rfl, show (⟨#[32]⟩ : ByteArray) = bs [32] from rfl, show (⟨#[112, 114, 101]⟩ : ByteArray) = bs [112, 114, 101] from rfl, b10, itB_bs]
  conv => lhs; rw [← bs_of o.name]
  simp only [bs_app]
  apply congrArg bs
  unfold opL opH
  simp
theorem re_cat (e : Eff) : (⟨#[101, 102, 102, 32]⟩ : ByteArray) ++ bs (fxL (e.var, e.val)) = bs (efH e) := by
  rw [show (⟨#[101, 102, 102, 32]⟩ : ByteArray) = bs [101, 102, 102, 32] from rfl, bs_app]
  apply congrArg bs
  unfold efH faL
  simp
theorem rl_cat (l : List UInt8) {o : Opr} {j : Nat} (hj : j < o.effs.length) (hw : ¬ 0 < (eff o.effs j).whn.length) : bs (l ++ opL o j) ++ (bs (efH (eff o.effs j)) ++ ⟨#[10]⟩) = bs (l ++ opL o (j + 1)) := by
  rw [b10, bs_app, bs_app, opL_succ hj]
  apply congrArg bs
  unfold efL
  rw [if_pos (by omega)]
  simp
theorem rm_cat (l : List UInt8) {o : Opr} {j : Nat} (hj : j < o.effs.length) (hw : 0 < (eff o.effs j).whn.length) : bs (l ++ opL o j) ++ (bs (efH (eff o.effs j)) ++ ⟨#[32, 105, 102]⟩ ++ bs (faL (eff o.effs j).whn (eff o.effs j).whn.length) ++ ⟨#[10]⟩) = bs (l ++ opL o (j + 1)) := by
  rw [b10, show (⟨#[32, 105, 102]⟩ : ByteArray) = bs [32, 105, 102] from rfl]
  simp only [bs_app]
  rw [opL_succ hj]
  apply congrArg bs
  unfold efL
  rw [if_neg (by omega)]
  simp

set_option maxRecDepth 100000 in
set_option maxHeartbeats 4000000 in
theorem rformat_any (t : Tsk) (p : Lies) (w : World) (ht : TaskAt w w.heap.size t p) (hC : chkC t = 0) :
    Calls Tryd.prog 9 #[TaskV t p] w fun e w' => e = .returned (.string (bs (fmL t t.ops.length))) ∧ Below w.heap.size w w' := by
  obtain ⟨av, ai, ag, ao, cv, ci, cg, co⟩ := p
  unfold TaskV at *
  dsimp only at *
  have l1 := ht.vars.len
  have l2 := ht.init.len
  have l3 := ht.goal.len
  have l4 := ht.ops.len
  have hr := right_of hC
  have Hr := Lib.hid hr
  have Hn := Lib.hid (name_le hC)
  have n1 : (bs (nuL t.vars t.vars.length)).size ≤ 10000 := by have := fmH_len hr; unfold fmH at this; simp only [List.length_append] at this; rw [bs_size]; omega
  have n2 : (bs (nuL t.init t.init.length)).size ≤ 10000 := by have := fmH_len hr; unfold fmH at this; simp only [List.length_append] at this; rw [bs_size]; omega
  have n3 : (bs (faL t.goal t.goal.length)).size ≤ 10000 := by have := fmH_len hr; unfold fmH at this; simp only [List.length_append] at this; rw [bs_size]; omega
  have k2 := Lib.hid fun W (hb : Below w.heap.size w W) => rnums_any ⟨#[118, 97, 114, 115]⟩ t.vars av cv W (ht.vars.up hb) (by have := Hr.out.nv; omega) (fun j hj => by have := Hr.out.dom j hj; omega) (by decide)
  have k3 := Lib.hid fun W (hb : Below w.heap.size w W) => rnums_any ⟨#[105, 110, 105, 116]⟩ t.init ai ci W (ht.init.up hb) (by have := (init_in Hr.out).1; omega) (fun j hj => by have := (init_in Hr.out).2 j hj; omega) (by decide)
  have k4 := Lib.hid fun W (hb : Below w.heap.size w W) => rfacts_any ⟨#[103, 111, 97, 108]⟩ t.goal ag cg W (ht.goal.up hb) (by have := Hr.out.ng; omega) (fac_in Hr.out Hr.out.goal) (by decide)
  have Hl := Lib.hid (fmL_len hr (name_le hC))
  clear hr hC
  go_enter Tryd.func9, Tryd.ntmps9
  go_upto_region 1 with fail
  refine wp_region_G 11 (fun w' => ∀ b o, w'.cell? ⟨b, o, none⟩ = if b < w.heap.size + 1 then (w.alloc (.cells #[.slice av t.vars.length cv, .slice ai t.init.length ci, .slice ag t.goal.length cg, .slice ao t.ops.length co] 26)).cell? ⟨b, o, none⟩ else hidC w' b o) (by kernel_rfl) (cif (B := w.heap.size + 1) (W := w.alloc (.cells #[.slice av t.vars.length cv, .slice ai t.init.length ci, .slice ag t.goal.length cg, .slice ao t.ops.length co] 26)) ((Below.refl _ _).drew)) ?_
  intro hG0
  refine wpS1 0 hG0 ?_; intro hG1; clear hG0
  refine wpS2 1 hG1 ?_; intro hG2; clear hG1
  refine wpS1 4 hG2 ?_; intro hG3; clear hG2
  refine wpS2 5 hG3 ?_; intro hG4; clear hG3
  refine wpS1 9 hG4 ?_; intro hG5; clear hG4
  refine wpS2 10 hG5 ?_; intro hG6; clear hG5
  refine wpAnyG_ready (rs := [2]) (by kernel_rfl) (by simp) (AllG.cons rfl hG6 (fun K hK => ?_) AllG.nil)
  (go_simp; go_at_call 24; refine (k2.out _ (by repeat (first | exact Below.refl _ _ | refine below_dN ?_ _ | refine Below.drew ?_ | refine Below.alloc ?_ (by first | omega | (simp; done) | (simp; omega)) _ | refine Below.setCell ?_ (by first | omega | (simp; done) | (simp; omega)) _ | refine below_step (by assumption) (by first | omega | (simp; done) | (simp; omega)) ?_))).mono ?_; rintro e w2 ⟨rfl, hb2⟩; have hq2 : Below (w.heap.size + 1) (w.alloc (.cells #[.slice av t.vars.length cv, .slice ai t.init.length ci, .slice ag t.goal.length cg, .slice ao t.ops.length co] 26)) w2 := ((Below.refl _ _).drew).trans (hb2.mono (by simp)); have z2 : w.heap.size + 1 ≤ w2.heap.size := (by have := hq2.size; simpa using this); have hw2 : Below w.heap.size w w2 := ((Below.refl _ _).alloc (Nat.le_refl _) _).trans (hq2.mono (by omega)); clear hb2)
  refine hK.out _ _ (Or.inr (cif hq2)) (fun hG7 => wpN ?_); clear hK hG6
  refine wpS1 3 hG7 ?_; intro hG8; clear hG7
  refine wpAnyG_ready (rs := [6]) (by kernel_rfl) (by simp) (AllG.cons rfl hG8 (fun K hK => ?_) AllG.nil)
  (go_simp; go_at_call 24; refine (k3.out _ hw2).mono ?_; rintro e w3 ⟨rfl, hb3⟩; have hq3 : Below (w.heap.size + 1) (w.alloc (.cells #[.slice av t.vars.length cv, .slice ai t.init.length ci, .slice ag t.goal.length cg, .slice ao t.ops.length co] 26)) w3 := hq2.trans (hb3.mono z2); have z3 : w.heap.size + 1 ≤ w3.heap.size := (by have := hb3.size; omega); have hw3 : Below w.heap.size w w3 := hw2.trans (hb3.mono (by omega)); clear hb3)
  refine hK.out _ _ (Or.inr (cif hq3)) (fun hG9 => wpN ?_); clear hK hG8
  refine wpS1 7 hG9 ?_; intro hG10; clear hG9
  refine wpS1 8 hG10 ?_; intro hG11; clear hG10
  refine wpAnyG_ready (rs := [11]) (by kernel_rfl) (by simp) (AllG.cons rfl hG11 (fun K hK => ?_) AllG.nil)
  (go_simp; go_at_call 25; refine (k4.out _ hw3).mono ?_; rintro e w4 ⟨rfl, hb4⟩; have hq4 : Below (w.heap.size + 1) (w.alloc (.cells #[.slice av t.vars.length cv, .slice ai t.init.length ci, .slice ag t.goal.length cg, .slice ao t.ops.length co] 26)) w4 := hq3.trans (hb4.mono z3); have z4 : w.heap.size + 1 ≤ w4.heap.size := (by have := hb4.size; omega); have hw4 : Below w.heap.size w w4 := hw3.trans (hb4.mono (by omega)); clear hb4 hq2 hq3 hw2 hw3)
  refine hK.out _ _ (Or.inl rfl) (fun hG12 => wpN ?_); clear hK hG11
  refine wpS1 12 hG12 ?_; intro hG13; clear hG12
  refine wpS1 13 hG13 ?_; intro hG14; clear hG13
  refine wpS1 14 hG14 ?_; intro hG15; clear hG14
  refine wpAnyG_done (by kernel_rfl) ?_ _; clear hG15
  have hc4 := cif hq4
  go_wp2
  go_loopw [3, 26] (fun sv i wr => ∃ (k : Nat) (x : ByteArray), k ≤ t.ops.length ∧ x = bs (fmL t k) ∧ sv = .string x ∧ i = .int .i64 k ∧ Below w.heap.size w wr) (fun _ i _ => t.ops.length - (intOf i).toNat)
  case atStart => exact ⟨0, _, by omega, rfl, congrArg Value.string ((hd_cat t).trans (congrArg bs (by unfold fmL; simp))), rfl, hw4⟩
  case round =>
    obtain ⟨k, x, hk, hx, rfl, rfl, hbel⟩ := hrel
    have hbz := hbel.size
    have hfl := Hl.out k hk
    have hkn : k * 200000 ≤ 4096 * 200000 := Nat.mul_le_mul_right _ (by have := Hr.out.no; omega)
    have hsz : x.size ≤ 1000000000 := by rw [hx, bs_size]; omega
    have Hx := Lib.hid hx
    clear hx hc4 hq4 hw4 z4
    by_cases hlt : k < t.ops.length
    · obtain ⟨b, o, S, c, T, d, ea, hb, d0, q0, d1, d2, f2, d3, e3⟩ := ht.ops.at2 hbel hlt; (try dsimp only at ea); subst ea; have hbz := hbel.size; have g2 : b < wr.heap.size := (by omega); have j1 := f2.len; have j2 := e3.len
      have hna := Hn.out k hlt
      have hco := Hr.out.cost k hlt
      have n4 := itB_size (opr t.ops k).cost (by omega) (by omega)
      have hoh : (opH (opr t.ops k)).length ≤ 4000 := by have := opL_len Hr.out hlt hna 0 (by omega); unfold opL at this; simpa using this
      have n5 : (bs (faL (opr t.ops k).pre (opr t.ops k).pre.length)).size ≤ 4000 := by unfold opH at hoh; simp only [List.length_append] at hoh; rw [bs_size]; omega
      have k5 := Lib.hid fun W (hb : Below w.heap.size w W) => rfacts_any ⟨#[112, 114, 101]⟩ (opr t.ops k).pre S c W (f2.up hb) (by have := Hr.out.np k hlt; omega) (fac_in Hr.out (Hr.out.pre k hlt)) (by decide)
      go_upto_region 5 with fail
      refine wp_region_G 16 (fun w' => ∀ b o, w'.cell? ⟨b, o, none⟩ = if b < wr.heap.size + 1 then (wr.alloc (.cells #[.string (opr t.ops k).name, .int .i64 (opr t.ops k).cost, .slice S (opr t.ops k).pre.length c, .slice T (opr t.ops k).effs.length d] 44)).cell? ⟨b, o, none⟩ else hidC w' b o) (by kernel_rfl) (cif (B := wr.heap.size + 1) (W := wr.alloc (.cells #[.string (opr t.ops k).name, .int .i64 (opr t.ops k).cost, .slice S (opr t.ops k).pre.length c, .slice T (opr t.ops k).effs.length d] 44)) ((Below.refl _ _).drew)) ?_
      intro hG0
      refine wpS1 0 hG0 ?_; intro hG1; clear hG0
      refine wpS1 1 hG1 ?_; intro hG2; clear hG1
      refine wpS2 2 hG2 ?_; intro hG3; clear hG2
      refine wpS1 6 hG3 ?_; intro hG4; clear hG3
      refine wpS2 7 hG4 ?_; intro hG5; clear hG4
      refine wpS1 10 hG5 ?_; intro hG6; clear hG5
      refine wpS2 11 hG6 ?_; intro hG7; clear hG6
      refine wpAnyG_ready (rs := [3]) (by kernel_rfl) (by simp) (AllG.cons rfl hG7 (fun K hK => ?_) AllG.nil)
      (go_simp; go_at_call 26; refine (rnumber_any _ _ (by omega) (by omega)).mono ?_; rintro e w6 ⟨rfl, hb6⟩; have hq6 : Below (wr.heap.size + 1) (wr.alloc (.cells #[.string (opr t.ops k).name, .int .i64 (opr t.ops k).cost, .slice S (opr t.ops k).pre.length c, .slice T (opr t.ops k).effs.length d] 44)) w6 := ((Below.refl _ _).drew).trans (hb6.mono (by simp)); have z6 : wr.heap.size + 1 ≤ w6.heap.size := (by have := hq6.size; simpa using this); have hbw6 : Below w.heap.size w w6 := (hbel.alloc hbz _).trans (hq6.mono (by omega)); clear hb6)
      refine hK.out _ _ (Or.inr (cif hq6)) (fun hG8 => wpN ?_); clear hK hG7
      refine wpS1 4 hG8 ?_; intro hG9; clear hG8
      refine wpS1 5 hG9 ?_; intro hG10; clear hG9
      refine wpS1 8 hG10 ?_; intro hG11; clear hG10
      refine wpS1 9 hG11 ?_; intro hG12; clear hG11
      refine wpAnyG_ready (rs := [12]) (by kernel_rfl) (by simp) (AllG.cons rfl hG12 (fun K hK => ?_) AllG.nil)
      (go_simp; go_at_call 25; refine (k5.out _ hbw6).mono ?_; rintro e w7 ⟨rfl, hb7⟩; have hq7 : Below (wr.heap.size + 1) (wr.alloc (.cells #[.string (opr t.ops k).name, .int .i64 (opr t.ops k).cost, .slice S (opr t.ops k).pre.length c, .slice T (opr t.ops k).effs.length d] 44)) w7 := hq6.trans (hb7.mono z6); have z7 : wr.heap.size + 1 ≤ w7.heap.size := (by have := hb7.size; omega); have hbw7 : Below w.heap.size w w7 := hbw6.trans (hb7.mono (by omega)); clear hb7 hq6 hbw6)
      refine hK.out _ _ (Or.inr (cif hq7)) (fun hG13 => wpN ?_); clear hK hG12
      refine wpS1 13 hG13 ?_; intro hG14; clear hG13
      refine wpS1 14 hG14 ?_; intro hG15; clear hG14
      refine wpS1 15 hG15 ?_; intro hG16; clear hG15
      refine wpAnyG_ready (rs := [16]) (by kernel_rfl) (by simp) (AllG.cons rfl hG16 (fun K hK => ?_) AllG.nil)
      (go_simp)
      refine hK.out _ _ (Or.inl rfl) (fun hG17 => wpN ?_); clear hK hG16
      refine wpAnyG_done (by kernel_rfl) ?_ _; clear hG17
      have hc7 := cif hq7
      clear n4 n5 hbel
      go_wp2
      go_loopw [3, 49] (fun sv i wx => ∃ (j : Nat) (y : ByteArray), j ≤ (opr t.ops k).effs.length ∧ y = bs (fmL t k ++ opL (opr t.ops k) j) ∧ sv = .string y ∧ i = .int .i64 j ∧ Below w.heap.size w wx) (fun _ i _ => (opr t.ops k).effs.length - (intOf i).toNat)
      case atStart => exact ⟨0, _, by omega, rfl, congrArg Value.string (by rw [Hx.out]; exact ro_cat _ _), rfl, hbw7⟩
      case round =>
        obtain ⟨j, y, hj, hy, rfl, rfl, hbel2⟩ := hrel
        have holm := opL_len Hr.out hlt hna j hj
        have hjn : j * 3000 ≤ 64 * 3000 := Nat.mul_le_mul_right _ (by have := Hr.out.ne k hlt; omega)
        have hsy : y.size ≤ 1100000000 := by rw [hy, bs_size, List.length_append]; omega
        have Hy := Lib.hid hy
        clear hy hc7 hq7 hbw7 z7
        by_cases hlt2 : j < (opr t.ops k).effs.length
        · have hlx := hlt2
          obtain ⟨b', o', S', c', ea', hb', i0, f5, i1, i2⟩ := e3.at2 hbel2 hlt2; subst ea'; have hbz2 := hbel2.size; have g3 : b' < wr.heap.size := (by omega); have j3 := f5.len
          obtain ⟨v0, v1, v2, v3⟩ := Hr.out.eff k hlt j hlt2
          have v4 := Hr.out.nv
          have v5 := Hr.out.dom (eff (opr t.ops k).effs j).var.toNat (by omega)
          have hle := efL_len Hr.out hlt hlt2
          have heh : (efH (eff (opr t.ops k).effs j)).length ≤ 3000 := by unfold efL at hle; rw [List.length_append] at hle; omega
          have n6 : (bs (fxL ((eff (opr t.ops k).effs j).var, (eff (opr t.ops k).effs j).val))).size ≤ 43 := by rw [bs_size]; exact fxL_len (by omega) (by omega) (by omega) (by omega)
          have n7 : (bs (efH (eff (opr t.ops k).effs j))).size ≤ 3000 := by rw [bs_size]; omega
          have q1 := re_cat (eff (opr t.ops k).effs j)
          have k7 := Lib.hid fun W (hb : Below w.heap.size w W) => rfacts_any (bs (efH (eff (opr t.ops k).effs j)) ++ ⟨#[32, 105, 102]⟩) (eff (opr t.ops k).effs j).whn S' c' W (f5.up hb) (by have := Hr.out.nw k hlt j hlt2; omega) (fac_in Hr.out (Hr.out.whn k hlt j hlt2)) (by rw [ByteArray.size_append]; show _ + 3 ≤ _; omega)
          by_cases hw : 0 < (eff (opr t.ops k).effs j).whn.length
          · have p1 : decide (0 < ((eff (opr t.ops k).effs j).whn.length : Int)) = true := decide_eq_true (by omega)
            have e1 : efL (eff (opr t.ops k).effs j) = efH (eff (opr t.ops k).effs j) ++ (([32, 105, 102] ++ faL (eff (opr t.ops k).effs j).whn (eff (opr t.ops k).effs j).whn.length) ++ [10]) := by unfold efL; rw [if_neg (by omega)]
            have hle2 : (faL (eff (opr t.ops k).effs j).whn (eff (opr t.ops k).effs j).whn.length).length ≤ 3000 := by rw [e1] at hle; simp only [List.length_append] at hle; omega
            have n8 : (bs (faL (eff (opr t.ops k).effs j).whn (eff (opr t.ops k).effs j).whn.length)).size ≤ 3000 := by rw [bs_size]; omega
            go_wp2_with fail; refine (rfact_any _ _ _ v0 (by omega) v2 (by omega)).mono ?_; rintro e w1 ⟨rfl, hb1⟩; obtain ⟨hc1, hf1, hz1, hlt1, hle1⟩ := cellsIf hb1 (by (try simp); exact rfl); (try have : w.heap.size < w1.heap.size := (by omega)); (try have : w.heap.size < w1.heap.size + 1 := (by omega)); (try have : w.heap.size < w1.heap.size + 1 + 1 := (by omega)); (try have : w.heap.size + 1 < w1.heap.size := (by omega)); (try have : w.heap.size + 1 < w1.heap.size + 1 := (by omega)); (try have : w.heap.size + 1 < w1.heap.size + 1 + 1 := (by omega)); (try have : w.heap.size + 1 + 1 < w1.heap.size := (by omega)); (try have : w.heap.size + 1 + 1 < w1.heap.size + 1 := (by omega)); (try have : w.heap.size + 1 + 1 < w1.heap.size + 1 + 1 := (by omega))
            go_wp2_with fail; refine (k7.out _ (by repeat (first | exact Below.refl _ _ | refine below_dN ?_ _ | refine Below.drew ?_ | refine Below.alloc ?_ (by first | omega | (simp; done) | (simp; omega)) _ | refine Below.setCell ?_ (by first | omega | (simp; done) | (simp; omega)) _ | refine below_step (by assumption) (by first | omega | (simp; done) | (simp; omega)) ?_))).mono ?_; rintro e w2 ⟨rfl, hb2⟩; obtain ⟨hc2, hf2, hz2, hlt2, hle2⟩ := cellsIf hb2 (by (try simp); exact rfl); (try have : w.heap.size < w2.heap.size := (by omega)); (try have : w.heap.size < w2.heap.size + 1 := (by omega)); (try have : w.heap.size < w2.heap.size + 1 + 1 := (by omega)); (try have : w.heap.size + 1 < w2.heap.size := (by omega)); (try have : w.heap.size + 1 < w2.heap.size + 1 := (by omega)); (try have : w.heap.size + 1 < w2.heap.size + 1 + 1 := (by omega)); (try have : w.heap.size + 1 + 1 < w2.heap.size := (by omega)); (try have : w.heap.size + 1 + 1 < w2.heap.size + 1 := (by omega)); (try have : w.heap.size + 1 + 1 < w2.heap.size + 1 + 1 := (by omega)); (try have : w1.heap.size < w2.heap.size := (by omega)); (try have : w1.heap.size < w2.heap.size + 1 := (by omega)); (try have : w1.heap.size < w2.heap.size + 1 + 1 := (by omega)); (try have : w1.heap.size + 1 < w2.heap.size := (by omega)); (try have : w1.heap.size + 1 < w2.heap.size + 1 := (by omega)); (try have : w1.heap.size + 1 < w2.heap.size + 1 + 1 := (by omega)); (try have : w1.heap.size + 1 + 1 < w2.heap.size := (by omega)); (try have : w1.heap.size + 1 + 1 < w2.heap.size + 1 := (by omega)); (try have : w1.heap.size + 1 + 1 < w2.heap.size + 1 + 1 := (by omega))
            go_wp2
            go_roundw
            case rel => exact ⟨j + 1, _, by omega, (by rw [Hy.out]; exact rm_cat _ hlx hw), rfl, by go_num, by repeat (first | exact Below.refl _ _ | refine below_dN ?_ _ | refine Below.drew ?_ | refine Below.alloc ?_ (by first | omega | (simp; done) | (simp; omega)) _ | refine Below.setCell ?_ (by first | omega | (simp; done) | (simp; omega)) _ | refine below_step (by assumption) (by first | omega | (simp; done) | (simp; omega)) ?_)⟩
            case measure => simp [intOf]; omega
          · have p1 : decide (0 < ((eff (opr t.ops k).effs j).whn.length : Int)) = false := decide_eq_false (by omega)
            go_wp2_with fail; refine (rfact_any _ _ _ v0 (by omega) v2 (by omega)).mono ?_; rintro e w1 ⟨rfl, hb1⟩; obtain ⟨hc1, hf1, hz1, hlt1, hle1⟩ := cellsIf hb1 (by (try simp); exact rfl); (try have : w.heap.size < w1.heap.size := (by omega)); (try have : w.heap.size < w1.heap.size + 1 := (by omega)); (try have : w.heap.size < w1.heap.size + 1 + 1 := (by omega)); (try have : w.heap.size + 1 < w1.heap.size := (by omega)); (try have : w.heap.size + 1 < w1.heap.size + 1 := (by omega)); (try have : w.heap.size + 1 < w1.heap.size + 1 + 1 := (by omega)); (try have : w.heap.size + 1 + 1 < w1.heap.size := (by omega)); (try have : w.heap.size + 1 + 1 < w1.heap.size + 1 := (by omega)); (try have : w.heap.size + 1 + 1 < w1.heap.size + 1 + 1 := (by omega))
            go_wp2
            go_roundw
            case rel => exact ⟨j + 1, _, by omega, (by rw [Hy.out]; exact rl_cat _ hlx hw), rfl, by go_num, by repeat (first | exact Below.refl _ _ | refine below_dN ?_ _ | refine Below.drew ?_ | refine Below.alloc ?_ (by first | omega | (simp; done) | (simp; omega)) _ | refine Below.setCell ?_ (by first | omega | (simp; done) | (simp; omega)) _ | refine below_step (by assumption) (by first | omega | (simp; done) | (simp; omega)) ?_)⟩
            case measure => simp [intOf]; omega
        · go_wp2
          go_roundw
          case rel => exact ⟨k + 1, y, by omega, (by rw [Hy.out, fmL_succ hlt, ← show j = (opr t.ops k).effs.length by omega]), rfl, by go_num, hbel2⟩
          case measure => simp [intOf]; omega
    · go_wp2
      go_ret
      refine ⟨congrArg (fun b => Ending.returned (.string b)) (?_ : x = _), hbel⟩
      rw [Hx.out, show k = t.ops.length by omega]

end Go.Proofs.YtkeelkpmajmjmaaDoor

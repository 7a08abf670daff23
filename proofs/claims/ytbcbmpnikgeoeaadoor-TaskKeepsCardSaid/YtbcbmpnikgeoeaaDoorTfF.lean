/- task.Format. -/
import Derived.Test.YtbcbmpnikgeoeaaDoorMpE
import Derived.Test.YtbcbmpnikgeoeaaDoorMpA
namespace Go.Proofs.YtbcbmpnikgeoeaaDoor
set_option linter.unusedSimpArgs false
set_option linter.unusedVariables false
open Go Go.RowKit
set_option linter.unusedVariables false

theorem fm_cat (t : Tsk) : (⟨#[118, 97, 114, 115]⟩ : ByteArray) ++ bs (nuL t.vars t.vars.length) ++ ⟨#[10, 105, 110, 105, 116]⟩ ++ bs (nuL t.init t.init.length) ++ ⟨#[10, 103, 111, 97, 108]⟩ ++ bs (faL t.goal t.goal.length) ++ ⟨#[10]⟩ = bs (fmH t) := by
  rw [show (⟨#[118, 97, 114, 115]⟩ : ByteArray) = bs [118, 97, 114, 115] from rfl, show (⟨#[10, 105, 110, 105, 116]⟩ : ByteArray) = bs [10, 105, 110, 105, 116] from rfl, show (⟨#[10, 103, 111, 97, 108]⟩ : ByteArray) = bs [10, 103, 111, 97, 108] from rfl, show (⟨#[10]⟩ : ByteArray) = bs [10] from rfl]
  simp only [bs_app]
  rfl
theorem op_cat (o : Opr) : (⟨#[111, 112, 32]⟩ : ByteArray) ++ itB o.cost ++ ⟨#[32]⟩ ++ o.name ++ ⟨#[10, 112, 114, 101]⟩ ++ bs (faL o.pre o.pre.length) ++ ⟨#[10]⟩ = bs (opH o) := by
  rw [show (⟨#[111, 112, 32]⟩ : ByteArray) = bs [111, 112, 32] from rfl, show (⟨#[32]⟩ : ByteArray) = bs [32] from rfl, show (⟨#[10, 112, 114, 101]⟩ : ByteArray) = bs [10, 112, 114, 101] from rfl, show (⟨#[10]⟩ : ByteArray) = bs [10] from rfl, itB_bs]
  conv => lhs; rw [← bs_of o.name]
  simp only [bs_app]
  congr 1
theorem ef_cat (x y : Int) (e : Eff) (h : e.var = x) (h2 : e.val = y) : (⟨#[101, 102, 102]⟩ : ByteArray) ++ bs (faL [(x, y)] 1) = bs (efH e) := by
  subst h; subst h2
  rw [show (⟨#[101, 102, 102]⟩ : ByteArray) = bs [101, 102, 102] from rfl, bs_app]
  rfl
theorem if_cat (e : Eff) : (⟨#[32, 105, 102]⟩ : ByteArray) ++ bs (faL e.whn e.whn.length) = bs ([32, 105, 102] ++ faL e.whn e.whn.length) := by
  rw [show (⟨#[32, 105, 102]⟩ : ByteArray) = bs [32, 105, 102] from rfl, bs_app]
theorem init_in {t : Tsk} (hr : Right t) : t.init.length ≤ 64 ∧ ∀ j, j < t.init.length → 0 ≤ nth t.init j ∧ nth t.init j ≤ 64 := by
  have hi := hr.init
  have hn := hr.nv
  unfold stB at hi
  simp only [decide_eq_true_eq] at hi
  obtain ⟨hi1, hi2⟩ := hi
  refine ⟨by omega, fun j hj => ?_⟩
  have := hi2 j (by omega)
  have := hr.dom j (by omega)
  omega
theorem cell_of {w : World} {k o : Nat} {c : Array Value} {T : TypeId} {fz : Nat × Nat} {v : Value} (h : w.heap[k]? = some (.cells c T fz)) (hv : c[o]? = some v) : w.cell? ⟨k, o, none⟩ = some v := by
  simp [World.cell?, h, hv]

set_option maxRecDepth 100000 in
set_option maxHeartbeats 4000000 in
theorem tformat_any (t : Tsk) (p : Lies) (w : World) (ht : TaskAt w w.heap.size t p) (hE : EnvT w) :
    Calls Tryd.prog 12 #[TaskV t p] w fun e w' => e = .returned (.tuple #[.string (fmS t), erV (fmC t)]) ∧ Below w.heap.size w w' := by
  have k1 := fun w1 (hb : Below w.heap.size w w1) => tcheck_any t p w1 (ht.up hb)
  obtain ⟨av, ai, ag, ao, cv, ci, cg, co⟩ := p
  unfold TaskV at *
  dsimp only at *
  have l1 := ht.vars.len
  have l2 := ht.init.len
  have l3 := ht.goal.len
  have l4 := ht.ops.len
  by_cases hC : chkC t = 0
  case neg =>
    have hv : erV (chkC t) = .iface 57 (.int .i64 (chkC t)) := by unfold erV; rw [if_neg hC]
    have f1 : fmC t = chkC t := if_pos hC
    have f2 : fmS t = ⟨#[]⟩ := if_neg (by rw [f1]; exact hC)
    rw [f1, f2, hv]
    rw [hv] at k1
    clear hC f1 f2 hv
    generalize chkC t = C at *
    go_enter Tryd.func12, Tryd.ntmps12
    go_wp2_with fail; refine (k1 _ (by repeat (first | exact Below.refl _ _ | refine below_dN ?_ _ | refine Below.drew ?_ | refine Below.alloc ?_ (by first | omega | (simp; done) | (simp; omega)) _ | refine Below.setCell ?_ (by first | omega | (simp; done) | (simp; omega)) _ | refine below_step (by assumption) (by first | omega | (simp; done) | (simp; omega)) ?_))).mono ?_; rintro e w1 ⟨rfl, hb1⟩; obtain ⟨hc1, hf1, hz1, hlt1, hle1⟩ := cellsIf hb1 (by (try simp); exact rfl); (try have : w.heap.size < w1.heap.size := (by omega)); (try have : w.heap.size < w1.heap.size + 1 := (by omega)); (try have : w.heap.size < w1.heap.size + 1 + 1 := (by omega)); (try have : w.heap.size + 1 < w1.heap.size := (by omega)); (try have : w.heap.size + 1 < w1.heap.size + 1 := (by omega)); (try have : w.heap.size + 1 < w1.heap.size + 1 + 1 := (by omega)); (try have : w.heap.size + 1 + 1 < w1.heap.size := (by omega)); (try have : w.heap.size + 1 + 1 < w1.heap.size + 1 := (by omega)); (try have : w.heap.size + 1 + 1 < w1.heap.size + 1 + 1 := (by omega))
    go_wp2
    refine bodyPost_ret (v := .tuple #[.string ⟨#[]⟩, .iface 57 (.int .i64 C)]) (by simp [results, Tryd.results12, go_sem]) rfl ⟨rfl, by repeat (first | exact Below.refl _ _ | refine below_dN ?_ _ | refine Below.drew ?_ | refine Below.alloc ?_ (by first | omega | (simp; done) | (simp; omega)) _ | refine Below.setCell ?_ (by first | omega | (simp; done) | (simp; omega)) _ | refine below_step (by assumption) (by first | omega | (simp; done) | (simp; omega)) ?_)⟩
  case pos =>
    have hr := right_of hC
    have Hr := Lib.hid hr
    have Hn := Lib.hid (name_le hC)
    have HE := Lib.hid hE
    rw [hC, erV_0] at k1
    have n1 : (bs (nuL t.vars t.vars.length)).size ≤ 10000 := by have := fmH_len hr; unfold fmH at this; simp only [List.length_append] at this; rw [bs_size]; omega
    have n2 : (bs (nuL t.init t.init.length)).size ≤ 10000 := by have := fmH_len hr; unfold fmH at this; simp only [List.length_append] at this; rw [bs_size]; omega
    have n3 : (bs (faL t.goal t.goal.length)).size ≤ 10000 := by have := fmH_len hr; unfold fmH at this; simp only [List.length_append] at this; rw [bs_size]; omega
    have k2 := Lib.hid fun W (hb : Below w.heap.size w W) => pnums_any t.vars av cv W (ht.vars.up hb) (by have := Hr.out.nv; omega) (fun j hj => by have := Hr.out.dom j hj; omega) (HE.out.up hb)
    have k3 := Lib.hid fun W (hb : Below w.heap.size w W) => pnums_any t.init ai ci W (ht.init.up hb) (by have := (init_in Hr.out).1; omega) (fun j hj => by have := (init_in Hr.out).2 j hj; omega) (HE.out.up hb)
    have k4 := Lib.hid fun W (hb : Below w.heap.size w W) => pfacts_any t.goal ag cg W (ht.goal.up hb) (by have := Hr.out.ng; omega) (fac_in Hr.out Hr.out.goal) (HE.out.up hb)
    have Hh := Lib.hid (fmH_len hr)
    have Hl := Lib.hid (fmL_len hr (name_le hC))
    clear hr hE
    go_enter Tryd.func12, Tryd.ntmps12
    go_wp2_with fail; refine (k1 _ (by repeat (first | exact Below.refl _ _ | refine below_dN ?_ _ | refine Below.drew ?_ | refine Below.alloc ?_ (by first | omega | (simp; done) | (simp; omega)) _ | refine Below.setCell ?_ (by first | omega | (simp; done) | (simp; omega)) _ | refine below_step (by assumption) (by first | omega | (simp; done) | (simp; omega)) ?_))).mono ?_; rintro e w1 ⟨rfl, hb1⟩; obtain ⟨hc1, hf1, hz1, hlt1, hle1⟩ := cellsIf hb1 (by (try simp); exact rfl); (try have : w.heap.size < w1.heap.size := (by omega)); (try have : w.heap.size < w1.heap.size + 1 := (by omega)); (try have : w.heap.size < w1.heap.size + 1 + 1 := (by omega)); (try have : w.heap.size + 1 < w1.heap.size := (by omega)); (try have : w.heap.size + 1 < w1.heap.size + 1 := (by omega)); (try have : w.heap.size + 1 < w1.heap.size + 1 + 1 := (by omega)); (try have : w.heap.size + 1 + 1 < w1.heap.size := (by omega)); (try have : w.heap.size + 1 + 1 < w1.heap.size + 1 := (by omega)); (try have : w.heap.size + 1 + 1 < w1.heap.size + 1 + 1 := (by omega))
    go_upto_region 5 with fail
    refine wp_region_G 12 (fun w' => ∀ b o, w'.cell? ⟨b, o, none⟩ = if b < w1.heap.size then w1.cell? ⟨b, o, none⟩ else hidC w' b o) (by kernel_rfl) (cif (B := w1.heap.size) (W := w1) (((Below.refl _ _).alloc (Nat.le_refl _) _).drew)) ?_
    intro hG0
    refine wpS1 0 hG0 ?_; intro hG1; clear hG0
    refine wpS2 1 hG1 ?_; intro hG2; clear hG1
    refine wpS1 5 hG2 ?_; intro hG3; clear hG2
    refine wpS2 6 hG3 ?_; intro hG4; clear hG3
    refine wpS1 10 hG4 ?_; intro hG5; clear hG4
    refine wpS2 11 hG5 ?_; intro hG6; clear hG5
    refine wpAnyG_ready (rs := [2]) (by kernel_rfl) (by simp) (AllG.cons rfl hG6 (fun K hK => ?_) AllG.nil)
    (go_simp; go_at_call 29; refine (k2.out _ (by repeat (first | exact Below.refl _ _ | refine below_dN ?_ _ | refine Below.drew ?_ | refine Below.alloc ?_ (by first | omega | (simp; done) | (simp; omega)) _ | refine Below.setCell ?_ (by first | omega | (simp; done) | (simp; omega)) _ | refine below_step (by assumption) (by first | omega | (simp; done) | (simp; omega)) ?_))).mono ?_; rintro e w2 ⟨rfl, hb2⟩; have hb12 : Below w1.heap.size w1 w2 := (((Below.refl _ _).alloc (Nat.le_refl _) _).drew).trans (hb2.mono (by simp)); have z2 := hb12.size; have bl2 : Bld w1.heap.size w1.heap.size [] w2 := (Bld.new w1).up (((Below.refl _ _).drew).trans hb2); clear hb2)
    refine hK.out _ _ (Or.inr (cif hb12)) (fun hG7 => wpN ?_); clear hK hG6
    refine wpS1 3 hG7 ?_; intro hG8; clear hG7
    refine wpS1 4 hG8 ?_; intro hG9; clear hG8
    refine wpAnyG_ready (rs := [7]) (by kernel_rfl) (by simp) (AllG.cons rfl hG9 (fun K hK => ?_) AllG.nil)
    (go_simp; go_at_call 29; refine (k3.out _ (by repeat (first | exact Below.refl _ _ | refine below_dN ?_ _ | refine Below.drew ?_ | refine Below.alloc ?_ (by first | omega | (simp; done) | (simp; omega)) _ | refine Below.setCell ?_ (by first | omega | (simp; done) | (simp; omega)) _ | refine below_step (by assumption) (by first | omega | (simp; done) | (simp; omega)) ?_))).mono ?_; rintro e w3 ⟨rfl, hb3⟩; have hb13 : Below w1.heap.size w1 w3 := hb12.trans (hb3.mono z2); have z3 := hb13.size; have bl3 := bl2.up hb3; clear hb3)
    refine hK.out _ _ (Or.inr (cif hb13)) (fun hG10 => wpN ?_); clear hK hG9
    refine wpS1 8 hG10 ?_; intro hG11; clear hG10
    refine wpS1 9 hG11 ?_; intro hG12; clear hG11
    refine wpAnyG_ready (rs := [12]) (by kernel_rfl) (by simp) (AllG.cons rfl hG12 (fun K hK => ?_) AllG.nil)
    (go_simp; go_at_call 30; refine (k4.out _ (by repeat (first | exact Below.refl _ _ | refine below_dN ?_ _ | refine Below.drew ?_ | refine Below.alloc ?_ (by first | omega | (simp; done) | (simp; omega)) _ | refine Below.setCell ?_ (by first | omega | (simp; done) | (simp; omega)) _ | refine below_step (by assumption) (by first | omega | (simp; done) | (simp; omega)) ?_))).mono ?_; rintro e w4 ⟨rfl, hb4⟩; have hb14 : Below w1.heap.size w1 w4 := hb13.trans (hb4.mono z3); have z4 := hb14.size; have bl4 := bl3.up hb4; clear hb4)
    refine hK.out _ _ (Or.inl rfl) (fun hG13 => wpN ?_); clear hK hG12
    refine wpS1 13 hG13 ?_; intro hG14; clear hG13
    refine wpS1 14 hG14 ?_; intro hG15; clear hG14
    refine wpAnyG_ready (rs := [15]) (by kernel_rfl) (by simp) (AllG.cons rfl hG15 (fun K hK => ?_) AllG.nil)
    (go_simp; go_at_call 28; rw [fm_cat]; refine (wr_any _ _ _ _ _ bl4 (by rw [bs_size]; have := Hh.out; simp; omega)).mono ?_; rintro e w5 ⟨rfl, bl5, hb5, -⟩; have hb15 : Below w1.heap.size w1 w5 := hb14.trans hb5; have z5 := hb15.size; rw [List.nil_append, bs_data] at bl5; clear hb5 bl2 bl3 bl4 hb12 hb13 hb14)
    refine hK.out _ _ (Or.inl rfl) (fun hG16 => wpN ?_); clear hK hG15
    refine wpAnyG_done (by kernel_rfl) ?_ _; clear hG16
    have hc5 := cif hb15
    go_wp2
    go_loopw [34] (fun i wr => ∃ k : Nat, k ≤ t.ops.length ∧ i = .int .i64 k ∧ Bld w1.heap.size w1.heap.size (fmL t k) wr ∧ Below w.heap.size w wr) (fun i _ => t.ops.length - (intOf i).toNat)
    case atStart => exact ⟨0, by omega, rfl, (by unfold fmL; simpa using bl5), by repeat (first | exact Below.refl _ _ | refine below_dN ?_ _ | refine Below.drew ?_ | refine Below.alloc ?_ (by first | omega | (simp; done) | (simp; omega)) _ | refine Below.setCell ?_ (by first | omega | (simp; done) | (simp; omega)) _ | refine below_step (by assumption) (by first | omega | (simp; done) | (simp; omega)) ?_)⟩
    case round =>
      obtain ⟨k, hk, rfl, hbl, hbel⟩ := hrel
      have hbz := hbel.size
      have hBr := hbl.lt
      by_cases hlt : k < t.ops.length
      · obtain ⟨b, o, S, c, T, d, ea, hb, d0, q0, d1, d2, f2, d3, e3⟩ := ht.ops.at2 hbel hlt; (try dsimp only at ea); subst ea; have hbz := hbel.size; have g2 : b < wr.heap.size := (by omega); have j1 := f2.len; have j2 := e3.len
        have hna := Hn.out k hlt
        have hco := Hr.out.cost k hlt
        have n4 := itB_size (opr t.ops k).cost (by omega) (by omega)
        have hoh : (opH (opr t.ops k)).length ≤ 4000 := by have := opL_len Hr.out hlt hna 0 (by omega); unfold opL at this; simpa using this
        have n5 : (bs (faL (opr t.ops k).pre (opr t.ops k).pre.length)).size ≤ 4000 := by unfold opH at hoh; simp only [List.length_append] at hoh; rw [bs_size]; omega
        have hfl := Hl.out k hk
        have hkn : k * 200000 ≤ 4096 * 200000 := Nat.mul_le_mul_right _ (by have := Hr.out.no; omega)
        have k5 := Lib.hid fun W (hb : Below w.heap.size w W) => pfacts_any (opr t.ops k).pre S c W (f2.up hb) (by have := Hr.out.np k hlt; omega) (fac_in Hr.out (Hr.out.pre k hlt)) (HE.out.up hb)
        go_upto_region 9 with fail
        refine wp_region_G 14 (fun w' => ∀ b o, w'.cell? ⟨b, o, none⟩ = if b < wr.heap.size + 1 then (wr.alloc (.cells #[.string (opr t.ops k).name, .int .i64 (opr t.ops k).cost, .slice S (opr t.ops k).pre.length c, .slice T (opr t.ops k).effs.length d] 47)).cell? ⟨b, o, none⟩ else hidC w' b o) (by kernel_rfl) (cif (B := wr.heap.size + 1) (W := wr.alloc (.cells #[.string (opr t.ops k).name, .int .i64 (opr t.ops k).cost, .slice S (opr t.ops k).pre.length c, .slice T (opr t.ops k).effs.length d] 47)) ((Below.refl _ _).drew)) ?_
        intro hG0
        refine wpS1 0 hG0 ?_; intro hG1; clear hG0
        refine wpS2 1 hG1 ?_; intro hG2; clear hG1
        refine wpS1 5 hG2 ?_; intro hG3; clear hG2
        refine wpS2 6 hG3 ?_; intro hG4; clear hG3
        refine wpS1 9 hG4 ?_; intro hG5; clear hG4
        refine wpS2 10 hG5 ?_; intro hG6; clear hG5
        refine wpAnyG_ready (rs := [2]) (by kernel_rfl) (by simp) (AllG.cons rfl hG6 (fun K hK => ?_) AllG.nil)
        (go_simp; go_at_call 31; refine (itoa_any _ _ (by omega) (by omega) (HE.out.up (by repeat (first | exact Below.refl _ _ | refine below_dN ?_ _ | refine Below.drew ?_ | refine Below.alloc ?_ (by first | omega | (simp; done) | (simp; omega)) _ | refine Below.setCell ?_ (by first | omega | (simp; done) | (simp; omega)) _ | refine below_step (by assumption) (by first | omega | (simp; done) | (simp; omega)) ?_)))).mono ?_; rintro e w6 ⟨rfl, hb6⟩; have hq6 : Below (wr.heap.size + 1) (wr.alloc (.cells #[.string (opr t.ops k).name, .int .i64 (opr t.ops k).cost, .slice S (opr t.ops k).pre.length c, .slice T (opr t.ops k).effs.length d] 47)) w6 := ((Below.refl _ _).drew).trans (hb6.mono (by simp)); have z6 : wr.heap.size + 1 ≤ w6.heap.size := (by have := hq6.size; simpa using this); have bl6 : Bld w1.heap.size w1.heap.size (fmL t k) w6 := hbl.up (((Below.refl _ _).alloc (Nat.le_refl _) _).trans (hq6.mono (by omega))); have hbw6 : Below w.heap.size w w6 := (hbel.alloc hbz _).trans (hq6.mono (by omega)); clear hb6)
        refine hK.out _ _ (Or.inr (cif hq6)) (fun hG7 => wpN ?_); clear hK hG6
        refine wpS1 3 hG7 ?_; intro hG8; clear hG7
        refine wpS1 4 hG8 ?_; intro hG9; clear hG8
        refine wpS1 7 hG9 ?_; intro hG10; clear hG9
        refine wpS1 8 hG10 ?_; intro hG11; clear hG10
        refine wpAnyG_ready (rs := [11]) (by kernel_rfl) (by simp) (AllG.cons rfl hG11 (fun K hK => ?_) AllG.nil)
        (go_simp; go_at_call 30; refine (k5.out _ hbw6).mono ?_; rintro e w7 ⟨rfl, hb7⟩; have hq7 : Below (wr.heap.size + 1) (wr.alloc (.cells #[.string (opr t.ops k).name, .int .i64 (opr t.ops k).cost, .slice S (opr t.ops k).pre.length c, .slice T (opr t.ops k).effs.length d] 47)) w7 := hq6.trans (hb7.mono z6); have z7 : wr.heap.size + 1 ≤ w7.heap.size := (by have := hb7.size; omega); have bl7 := bl6.up hb7; clear hb7)
        refine hK.out _ _ (Or.inr (cif hq7)) (fun hG12 => wpN ?_); clear hK hG11
        refine wpS1 12 hG12 ?_; intro hG13; clear hG12
        refine wpS1 13 hG13 ?_; intro hG14; clear hG13
        refine wpAnyG_ready (rs := [14]) (by kernel_rfl) (by simp) (AllG.cons rfl hG14 (fun K hK => ?_) AllG.nil)
        (go_simp; go_at_call 28; rw [op_cat]; refine (wr_any _ _ _ _ _ bl7 (by rw [bs_size]; omega)).mono ?_; rintro e w8 ⟨rfl, bl8, hb8, hk8⟩; have hx8 := oth_block hk8 ((hq7.block wr.heap.size (Nat.lt_succ_self _)).trans (heap_alloc_new _ _)) (by omega) (by decide); have z8 : wr.heap.size < w8.heap.size := (by have := hb8.size; omega); have hbw8 : Below w.heap.size w w8 := ((hbel.alloc hbz _).trans (hq7.mono (by omega))).trans (hb8.mono (by omega)); rw [bs_data] at bl8; clear hb8 hk8 bl6 bl7 hq6 hq7 hbw6)
        refine hK.out _ _ (Or.inl rfl) (fun hG15 => wpN ?_); clear hK hG14
        refine wpAnyG_done (by kernel_rfl) ?_ _; clear hG15
        have c8 := cell_of (o := 3) hx8 rfl
        clear hx8 n4 n5 hbl hbel
        go_wp2
        go_loopw [56] (fun i wx => ∃ j : Nat, j ≤ (opr t.ops k).effs.length ∧ i = .int .i64 j ∧ Bld w1.heap.size w1.heap.size (fmL t k ++ opL (opr t.ops k) j) wx ∧ Below w.heap.size w wx) (fun i _ => (opr t.ops k).effs.length - (intOf i).toNat)
        case atStart => exact ⟨0, by omega, rfl, (by unfold opL; simpa using bl8), hbw8⟩
        case round =>
          obtain ⟨j, hj, rfl, hbm, hbel2⟩ := hrel
          have hBm := hbm.lt
          have holm := opL_len Hr.out hlt hna j hj
          have hjn : j * 3000 ≤ 64 * 3000 := Nat.mul_le_mul_right _ (by have := Hr.out.ne k hlt; omega)
          clear bl8 hbw8 z8 c8
          by_cases hlt2 : j < (opr t.ops k).effs.length
          · obtain ⟨b', o', S', c', ea', hb', i0, f5, i1, i2⟩ := e3.at2 hbel2 hlt2; subst ea'; have hbz2 := hbel2.size; have g3 : b' < wr.heap.size := (by omega); have j3 := f5.len
            obtain ⟨v0, v1, v2, v3⟩ := Hr.out.eff k hlt j hlt2
            have v4 := Hr.out.nv
            have v5 := Hr.out.dom (eff (opr t.ops k).effs j).var.toNat (by omega)
            have hle := efL_len Hr.out hlt hlt2
            have heh : (efH (eff (opr t.ops k).effs j)).length ≤ 3000 := by unfold efL at hle; rw [List.length_append] at hle; omega
            have n6 : (bs (faL [((eff (opr t.ops k).effs j).var, (eff (opr t.ops k).effs j).val)] 1)).size ≤ 3000 := by unfold efH at heh; rw [List.length_append] at heh; rw [bs_size]; omega
            have k6 := Lib.hid fun W b (hb : Below w.heap.size w W) hi => pfacts_any [((eff (opr t.ops k).effs j).var, (eff (opr t.ops k).effs j).val)] (some ⟨b, 0, none⟩) 1 W hi (by simp) (fun i hi => by
              have e : i = 0 := by simp at hi; omega
              subst e
              refine ⟨⟨v0, ?_⟩, v2, ?_⟩
              · show (eff (opr t.ops k).effs j).var ≤ 1000000; omega
              · show (eff (opr t.ops k).effs j).val ≤ 1000000; omega) (HE.out.up hb)
            have k7 := Lib.hid fun W (hb : Below w.heap.size w W) => pfacts_any (eff (opr t.ops k).effs j).whn S' c' W (f5.up hb) (by have := Hr.out.nw k hlt j hlt2; omega) (fac_in Hr.out (Hr.out.whn k hlt j hlt2)) (HE.out.up hb)
            go_wp2_with fail
            refine (k6.out _ _ (by repeat (first | exact Below.refl _ _ | refine below_dN ?_ _ | refine Below.drew ?_ | refine Below.alloc ?_ (by first | omega | (simp; done) | (simp; omega)) _ | refine Below.setCell ?_ (by first | omega | (simp; done) | (simp; omega)) _ | refine below_step (by assumption) (by first | omega | (simp; done) | (simp; omega)) ?_)) (factsAt_one (by simp) (by simp) (by simp))).mono ?_
            rintro e w9 ⟨rfl, hb9⟩
            have hx9 : w9.heap[wr.heap.size]? = _ := (hb9.block _ (by simp; omega)).trans ((Below.heap_alloc _ _ _ (by simp)).trans (heap_alloc_new _ _))
            have z9 : wr.heap.size < w9.heap.size := by have := hb9.size; simp at this; omega
            have bl9 : Bld w1.heap.size w1.heap.size (fmL t k ++ opL (opr t.ops k) j) w9 := hbm.up (by repeat (first | exact Below.refl _ _ | refine below_dN ?_ _ | refine Below.drew ?_ | refine Below.alloc ?_ (by first | omega | (simp; done) | (simp; omega)) _ | refine Below.setCell ?_ (by first | omega | (simp; done) | (simp; omega)) _ | refine below_step (by assumption) (by first | omega | (simp; done) | (simp; omega)) ?_))
            have hbw9 : Below w.heap.size w w9 := by repeat (first | exact Below.refl _ _ | refine below_dN ?_ _ | refine Below.drew ?_ | refine Below.alloc ?_ (by first | omega | (simp; done) | (simp; omega)) _ | refine Below.setCell ?_ (by first | omega | (simp; done) | (simp; omega)) _ | refine below_step (by assumption) (by first | omega | (simp; done) | (simp; omega)) ?_)
            clear hb9
            go_wp2_with fail
            rw [ef_cat _ _ (eff (opr t.ops k).effs j) rfl rfl]
            refine (wr_any _ _ _ _ _ bl9 (by rw [bs_size, List.length_append]; omega)).mono ?_
            rintro e w10 ⟨rfl, bl10, hb10, hk10⟩
            have hx10 := oth_block hk10 hx9 (by omega) (by decide)
            have z10 : wr.heap.size < w10.heap.size := by have := hb10.size; omega
            have hbw10 : Below w.heap.size w w10 := hbw9.trans (hb10.mono (by omega))
            have c10 := cell_of (o := 0) hx10 rfl
            rw [bs_data] at bl10
            clear hb10 hk10 hx9 bl9 hbw9 hx10
            by_cases hw : 0 < (eff (opr t.ops k).effs j).whn.length
            · have p1 : decide (0 < ((eff (opr t.ops k).effs j).whn.length : Int)) = true := decide_eq_true (by omega)
              have e1 : efL (eff (opr t.ops k).effs j) = efH (eff (opr t.ops k).effs j) ++ (([32, 105, 102] ++ faL (eff (opr t.ops k).effs j).whn (eff (opr t.ops k).effs j).whn.length) ++ [10]) := by unfold efL; rw [if_neg (by omega)]
              have hle2 : (faL (eff (opr t.ops k).effs j).whn (eff (opr t.ops k).effs j).whn.length).length ≤ 3000 := by rw [e1] at hle; simp only [List.length_append] at hle; omega
              have n7 : (bs (faL (eff (opr t.ops k).effs j).whn (eff (opr t.ops k).effs j).whn.length)).size ≤ 3000 := by rw [bs_size]; omega
              go_wp2_with fail
              refine (k7.out _ (by repeat (first | exact Below.refl _ _ | refine below_dN ?_ _ | refine Below.drew ?_ | refine Below.alloc ?_ (by first | omega | (simp; done) | (simp; omega)) _ | refine Below.setCell ?_ (by first | omega | (simp; done) | (simp; omega)) _ | refine below_step (by assumption) (by first | omega | (simp; done) | (simp; omega)) ?_))).mono ?_
              rintro e w11 ⟨rfl, hb11⟩
              have bl11 := bl10.up (show Below w10.heap.size w10 w11 by repeat (first | exact Below.refl _ _ | refine below_dN ?_ _ | refine Below.drew ?_ | refine Below.alloc ?_ (by first | omega | (simp; done) | (simp; omega)) _ | refine Below.setCell ?_ (by first | omega | (simp; done) | (simp; omega)) _ | refine below_step (by assumption) (by first | omega | (simp; done) | (simp; omega)) ?_))
              have hbw11 : Below w.heap.size w w11 := by repeat (first | exact Below.refl _ _ | refine below_dN ?_ _ | refine Below.drew ?_ | refine Below.alloc ?_ (by first | omega | (simp; done) | (simp; omega)) _ | refine Below.setCell ?_ (by first | omega | (simp; done) | (simp; omega)) _ | refine below_step (by assumption) (by first | omega | (simp; done) | (simp; omega)) ?_)
              go_wp2_with fail
              rw [if_cat]
              refine (wr_any _ _ _ _ _ bl11 (by rw [bs_size]; simp only [List.length_append, List.length_cons, List.length_nil]; omega)).mono ?_
              rintro e w12 ⟨rfl, bl12, hb12, -⟩
              have hbw12 : Below w.heap.size w w12 := hbw11.trans (hb12.mono (by omega))
              rw [bs_data] at bl12
              clear hb11 hb12 bl10 bl11 hbw11 hbw10
              go_wp2_with fail
              refine (wr_any _ _ _ _ _ bl12 (by simp only [List.length_append, List.length_cons, List.length_nil]; show _ + 1 ≤ _; omega)).mono ?_
              rintro e w13 ⟨rfl, bl13, hb13, -⟩
              have hbw13 : Below w.heap.size w w13 := hbw12.trans (hb13.mono (by omega))
              have e2 : fmL t k ++ opL (opr t.ops k) (j + 1) = fmL t k ++ opL (opr t.ops k) j ++ efH (eff (opr t.ops k).effs j) ++ ([32, 105, 102] ++ faL (eff (opr t.ops k).effs j).whn (eff (opr t.ops k).effs j).whn.length) ++ [10] := by rw [opL_succ hlt2, e1]; simp only [List.append_assoc]
              have bl14 : Bld w1.heap.size w1.heap.size (fmL t k ++ opL (opr t.ops k) (j + 1)) w13 := by rw [e2]; exact bl13
              clear hb13 bl12 bl13 hbw12
              go_wp2
              go_roundw
              case rel => exact ⟨j + 1, by omega, by go_num, bl14, hbw13⟩
              case measure => simp [intOf]; omega
            · have p1 : decide (0 < ((eff (opr t.ops k).effs j).whn.length : Int)) = false := decide_eq_false (by omega)
              have e1 : efL (eff (opr t.ops k).effs j) = efH (eff (opr t.ops k).effs j) ++ ([] ++ [10]) := by unfold efL; rw [if_pos (by omega)]
              go_wp2_with fail
              refine (wr_any _ _ _ _ _ bl10 (by simp only [List.length_append]; show _ + 1 ≤ _; omega)).mono ?_
              rintro e w13 ⟨rfl, bl13, hb13, -⟩
              have hbw13 : Below w.heap.size w w13 := hbw10.trans (hb13.mono (by omega))
              have e2 : fmL t k ++ opL (opr t.ops k) (j + 1) = fmL t k ++ opL (opr t.ops k) j ++ efH (eff (opr t.ops k).effs j) ++ [10] := by rw [opL_succ hlt2, e1]; simp only [List.append_assoc, List.nil_append]
              have bl14 : Bld w1.heap.size w1.heap.size (fmL t k ++ opL (opr t.ops k) (j + 1)) w13 := by rw [e2]; exact bl13
              clear hb13 bl10 bl13 hbw10
              go_wp2
              go_roundw
              case rel => exact ⟨j + 1, by omega, by go_num, bl14, hbw13⟩
              case measure => simp [intOf]; omega
          · go_wp2
            go_roundw
            case rel => exact ⟨k + 1, by omega, by go_num, (by rw [fmL_succ hlt, ← show j = (opr t.ops k).effs.length by omega]; exact hbm), hbel2⟩
            case measure => simp [intOf]; omega
      · obtain rfl : k = t.ops.length := by omega
        have hC0 := Lib.hid hC
        have hfl := Hl.out _ hk
        have hkn : t.ops.length * 200000 ≤ 4096 * 200000 := Nat.mul_le_mul_right _ (by have := Hr.out.no; omega)
        have k8 := Lib.hid fun W (h : Bld w1.heap.size w1.heap.size (fmL t t.ops.length) W) => wlen_any w1.heap.size w1.heap.size (fmL t t.ops.length) W h
        have k9 := Lib.hid fun W (h : Bld w1.heap.size w1.heap.size (fmL t t.ops.length) W) => wstr_any w1.heap.size w1.heap.size (fmL t t.ops.length) W h
        by_cases hg : 65536 < (fmL t t.ops.length).length
        · have p1 : decide (65536 < ((fmL t t.ops.length).length : Int)) = true := decide_eq_true (by omega)
          have f1 : fmC t = 5 := by unfold fmC; rw [if_neg (by simp [hC]), if_pos hg]
          have f2 : fmS t = ⟨#[]⟩ := if_neg (by rw [f1]; decide)
          clear hC
          go_wp2_with fail
          refine (k8.out _ hbl).mono ?_
          rintro e w9 ⟨rfl, rfl⟩
          go_wp2
          refine bodyPost_ret (v := .tuple #[.string ⟨#[]⟩, .iface 57 (.int .i64 5)]) (by simp [results, Tryd.results12, go_sem]) rfl ⟨by rw [f1, f2]; rfl, by repeat (first | exact Below.refl _ _ | refine below_dN ?_ _ | refine Below.drew ?_ | refine Below.alloc ?_ (by first | omega | (simp; done) | (simp; omega)) _ | refine Below.setCell ?_ (by first | omega | (simp; done) | (simp; omega)) _ | refine below_step (by assumption) (by first | omega | (simp; done) | (simp; omega)) ?_)⟩
        · have p1 : decide (65536 < ((fmL t t.ops.length).length : Int)) = false := decide_eq_false (by omega)
          have f1 : fmC t = 0 := by unfold fmC; rw [if_neg (by simp [hC]), if_neg hg]
          have f2 : fmS t = bs (fmL t t.ops.length) := if_pos f1
          clear hC
          go_wp2_with fail
          refine (k8.out _ hbl).mono ?_
          rintro e w9 ⟨rfl, rfl⟩
          go_wp2_with fail
          refine (k9.out _ hbl).mono ?_
          rintro e w10 ⟨rfl, hb10⟩
          go_wp2
          refine bodyPost_ret (v := .tuple #[.string (bs (fmL t t.ops.length)), .nilIface]) (by simp [results, Tryd.results12, go_sem]) rfl ⟨by rw [f1, f2, erV_0], hbel.trans (hb10.mono (by omega))⟩

end Go.Proofs.YtbcbmpnikgeoeaaDoor

/- base.Edges: all steps between all states. -/
import Derived.Test.YtenmeiplglbafaaStaW
import Derived.Test.YtenmeiplglbafaaRankB
import Derived.Test.YtenmeiplglbafaaGood
namespace Go.Proofs.Ytenmeiplglbafaa
set_option linter.unusedSimpArgs false
set_option linter.unusedVariables false
open Go Go.RowKit
set_option linter.unusedVariables false

/-- Edges as cells; a slice of edges. -/
def ec (l : List (Nat × Nat × Nat)) : List Value := l.flatMap fun a => [.int .i64 (a.1 : Int), .int .i64 (a.2.1 : Int), .int .i64 (a.2.2 : Int)]
theorem ec_app (a b : List (Nat × Nat × Nat)) : ec (a ++ b) = ec a ++ ec b := by unfold ec; rw [List.flatMap_append]
theorem ec_len (l : List (Nat × Nat × Nat)) : (ec l).length = l.length * 3 := by
  induction l with
  | nil => rfl
  | cons f l ih => show (_ :: _ :: _ :: ec l).length = _; simp only [List.length_cons, ih]; omega
theorem ec_get : ∀ (l : List (Nat × Nat × Nat)) (k : Nat), k < l.length → (ec l)[k * 3]? = some (.int .i64 ((egd l k).1 : Int)) ∧ (ec l)[k * 3 + 1]? = some (.int .i64 ((egd l k).2.1 : Int)) ∧ (ec l)[k * 3 + 2]? = some (.int .i64 ((egd l k).2.2 : Int))
  | f :: l, 0, _ => ⟨rfl, rfl, rfl⟩
  | f :: l, k + 1, h => by
    obtain ⟨h1, h2, h3⟩ := ec_get l k (by simp at h; omega)
    have e : ec (f :: l) = .int .i64 (f.1 : Int) :: .int .i64 (f.2.1 : Int) :: .int .i64 (f.2.2 : Int) :: ec l := rfl
    rw [e, show (k + 1) * 3 = k * 3 + 1 + 1 + 1 by omega]
    exact ⟨h1, h2, h3⟩
theorem infoEd : (Try.prog.info? 103).map (fun i => (i.zero, i.size, i.bytes)) = some (some (.agg #[.int .i64 0, .int .i64 0, .int .i64 0]), 3, 24) := by kernel_rfl
theorem undEd : Try.prog.underlying 100 = some (.slice 103) := by kernel_rfl
def EdgAt (w : World) (B : Nat) (A : Option Addr) (l : List (Nat × Nat × Nat)) : Prop :=
  0 < l.length → ∃ b, A = some ⟨b, 0, none⟩ ∧ b < B ∧ ∀ k, k < l.length → w.cell? ⟨b, k * 3, none⟩ = some (.int .i64 ((egd l k).1 : Int)) ∧ w.cell? ⟨b, k * 3 + 1, none⟩ = some (.int .i64 ((egd l k).2.1 : Int)) ∧ w.cell? ⟨b, k * 3 + 2, none⟩ = some (.int .i64 ((egd l k).2.2 : Int))
def GotEdg (w : World) (v : Value) (l : List (Nat × Nat × Nat)) : Prop := ∃ A c, v = .slice A l.length c ∧ EdgAt w w.heap.size A l
theorem EdgAt.up {w w' : World} {A : Option Addr} {l : List (Nat × Nat × Nat)} (h : EdgAt w w.heap.size A l) (hb : Below w.heap.size w w') : EdgAt w' w'.heap.size A l := fun h0 => by
  obtain ⟨b, e, hlt, hc⟩ := h h0
  exact ⟨b, e, Nat.lt_of_lt_of_le hlt hb.size, fun k hk => ⟨(hb.cell (p := ⟨b, _, none⟩) hlt).trans (hc k hk).1, (hb.cell (p := ⟨b, _, none⟩) hlt).trans (hc k hk).2.1, (hb.cell (p := ⟨b, _, none⟩) hlt).trans (hc k hk).2.2⟩⟩
/-- The block, if any, is no elder one. -/
def FreshV (B : Nat) (v : Value) : Prop := ∀ g, v.ownBlock = some g → B ≤ g
theorem gotEdg_own {w : World} {B : Nat} {v : Value} {l : List (Nat × Nat × Nat)} (h : w.ownsRow B 103 3 v l.length (ec l)) : GotEdg w v l := by
  rcases h.2 with ⟨rfl, h0⟩ | ⟨b, cap, cur, rfl, hb, hg, hnc, hcm, hcs, htk⟩
  · exact ⟨none, 0, by rw [h0], fun hn => absurd hn (by omega)⟩
  · have hcell : ∀ i u, (ec l)[i]? = some u → w.cell? ⟨b, i, none⟩ = some u := fun i u hi => by
      rw [cell_of_row w b i cur 103 (0, 0) hg]
      rw [← htk, List.getElem?_take] at hi
      split at hi
      · simpa using hi
      · cases hi
    exact ⟨_, cap, rfl, fun _ => ⟨b, rfl, (Array.getElem?_eq_some_iff.1 hg).1, fun k hk => ⟨hcell _ _ (ec_get l k hk).1, hcell _ _ (ec_get l k hk).2.1, hcell _ _ (ec_get l k hk).2.2⟩⟩⟩
def egK (t : Tsk) (i j : Nat) : List (Nat × Nat × Nat) := egN t i ++ egO t (row (sts t.vars) i) i j
theorem egK_len {t : Tsk} {i j : Nat} (hi : i ≤ 512) (hj : j ≤ t.ops.length) (ho : t.ops.length ≤ 20) : (egK t i j).length ≤ 20000 := by
  unfold egK
  rw [List.length_append]
  have h1 := egN_len (t := t) i
  have h2 := egO_len (t := t) (row (sts t.vars) i) i j
  have h3 : i * t.ops.length ≤ 512 * 20 := Nat.mul_le_mul hi ho
  omega
theorem st_nxt' {t : Tsk} (hr : Right t) {s : List Int} (hs : stB t.vars s = true) {k : Nat} (hk : k < t.ops.length) : stB t.vars (nxt t s k) = true := by
  unfold stB at *
  simp only [decide_eq_true_eq] at *
  have key : ∀ j, j ≤ (opr t.ops k).effs.length → StP t.vars (apE s (opr t.ops k).effs j) := fun j => by
    induction j with
    | zero => intro _; exact hs
    | succ j ih =>
      intro hj
      have h1 := ih (by omega)
      have he := hr.eff k hk j (by omega)
      unfold apE
      split
      · refine ⟨by rw [List.length_set]; exact h1.1, fun v hv => ?_⟩
        rw [List.length_set] at hv
        rw [nth_set (by rw [h1.1]; omega)]
        split
        · rename_i e; subst e; exact ⟨he.2.2.1, he.2.2.2⟩
        · exact h1.2 v hv
      · exact h1
  exact key _ (Nat.le_refl _)

set_option maxRecDepth 100000 in
set_option maxHeartbeats 16000000 in
theorem bedges_any (t : Tsk) (p : Lies) (w : World) (ht : TaskAt w w.heap.size t p) (hs : Smll t) :
    Calls Try.prog 52 #[TaskV t p] w fun e w' => (∃ v, e = .returned v ∧ GotEdg w' v (edges t) ∧ FreshV w.heap.size v) ∧ Below w.heap.size w w' := by
  have k1 := fun w1 (hb : Below w.heap.size w w1) => bstates_any t.vars p.av p.cv w1 (ht.vars.up hb) hs.right.dom (by have := hs.many; omega) hs.right.nv
  have k2 := fun w1 (s : List Int) (A : Option Addr) (c k : Nat) (hb : Below w.heap.size w w1) (h : IntsAt w1 w1.heap.size A s) (hc : A = none → c = 0) (hst : stB t.vars s = true) (hk : k < t.ops.length) =>
    bapply_any t p s A c k w1 (ht.up hb) h hc (chk0 hs.chk).1 (chk0 hs.chk).2.2.1 hst hk
  have k3 := fun w1 (s : List Int) (A : Option Addr) (c : Nat) (hb : Below w.heap.size w w1) (h : IntsAt w1 w1.heap.size A s) (hst : stB t.vars s = true) =>
    brank_any t.vars s p.av A p.cv c w1 (ht.vars.up hb) h (by unfold stB at hst; simpa using hst) hs.right.dom (by have := hs.many; omega)
  have hN := sts_len hs.right
  have hN2 := hs.many
  have ho := hs.no
  have HS := Lib.hid hs
  have K1 := Lib.hid k1
  have K2 := Lib.hid k2
  have K3 := Lib.hid k3
  clear hs k1 k2 k3
  obtain ⟨av, ai, ag, ao, cv, ci, cg, co⟩ := p
  unfold TaskV at *
  dsimp only at *
  obtain ⟨inf, hi, iz0, iz1, iz2⟩ := info_parts infoEd
  have hN3 : (sts t.vars).length ≤ 512 := by omega
  clear hN hN2
  go_enter Try.func52, Try.ntmps52
  go_wp2_with fail
  refine (K1.out _ (by repeat (first | exact Below.refl _ _ | refine below_dN ?_ _ | refine Below.drew ?_ | refine Below.alloc ?_ (by first | omega | (simp; done) | (simp; omega)) _ | refine Below.setCell ?_ (by first | omega | (simp; done) | (simp; omega)) _ | refine below_step (by assumption) (by first | omega | (simp; done) | (simp; omega)) ?_))).mono ?_
  rintro e w2 ⟨⟨v2, rfl, A, c, rfl, hrows⟩, hb2⟩
  have hbx2 : Boxed w2 w.heap.size t ⟨av, ai, ag, ao, cv, ci, cg, co⟩ := Boxed.up (by constructor <;> simp) hb2
  have hbw2 : Below w.heap.size w w2 := ((Below.refl _ _).alloc (Nat.le_refl _) _).trans (hb2.mono (by simp))
  have Hrows := Lib.hid hrows
  have z2 := hbw2.size
  clear hrows hb2
  obtain ⟨z0, y0, y1, y2, y3⟩ := id hbx2
  dsimp only at y0 y1 y2 y3
  go_wp2
  go_loopw [3, 13] (fun v i wr => ∃ (k : Nat), k ≤ (sts t.vars).length ∧ i = .int .i64 k ∧ Hid (wr.ownsRow w2.heap.size 103 3 v (egN t k).length (ec (egN t k))) ∧ Below w2.heap.size w2 wr) (fun _ i _ => (sts t.vars).length - (intOf i).toNat)
  case atStart => exact ⟨0, by omega, rfl, Lib.hid (World.ownsRow_nil _ _ _ _), Below.refl _ _⟩
  case round =>
    clear z0 y0 y1 y2 y3
    obtain ⟨k, hk, rfl, hown, hbel⟩ := hrel
    obtain ⟨wt, rfl⟩ : ∃ wt : World, wt = wr := ⟨_, rfl⟩
    obtain ⟨z0, y0, y1, y2, y3⟩ := id (hbx2.up hbel)
    dsimp only at y0 y1 y2 y3
    have hbz := hbel.size
    by_cases hlt : k < (sts t.vars).length
    · obtain ⟨b1, eA, hb1, hc1⟩ := Hrows.out (by omega)
      subst eA
      obtain ⟨S, cS, f1, f2, f3⟩ := hc1 k hlt
      have d1 := (hbel.cell (p := ⟨b1, k, none⟩) hb1).trans f1
      have g1 : b1 < wt.heap.size := by omega
      have k0 : (0 : Int) ≤ (k : Int) := by omega
      have k1 : (k : Int) < ((sts t.vars).length : Int) := by omega
      have hst := sts_st HS.out.right hlt
      obtain ⟨s, hs⟩ : ∃ s, s = row (sts t.vars) k := ⟨_, rfl⟩
      rw [← hs] at d1 f3 hst
      have Hst := Lib.hid hst
      have Hs := Lib.hid hs
      have Hf3 := Lib.hid f3
      clear hc1 f1 f3 hst hs
      go_wp2
      go_loopw [3, 21] (fun v i wr => ∃ (j : Nat), j ≤ t.ops.length ∧ i = .int .i64 j ∧ Hid (wr.ownsRow w2.heap.size 103 3 v (egK t k j).length (ec (egK t k j))) ∧ Below w2.heap.size w2 wr) (fun _ i _ => t.ops.length - (intOf i).toNat)
      case atStart => exact ⟨0, by omega, rfl, Lib.hid (by unfold egK; rw [egO_zero, List.append_nil]; exact hown.out), hbel⟩
      case round =>
        clear z0 y0 y1 y2 y3
        obtain ⟨j, hj, rfl, hown2, hbx⟩ := hrel
        obtain ⟨z0, y0, y1, y2, y3⟩ := id (hbx2.up hbx)
        dsimp only at y0 y1 y2 y3
        have hbxz := hbx.size
        obtain ⟨wu, rfl⟩ : ∃ wu : World, wu = wr := ⟨_, rfl⟩
        by_cases hltj : j < t.ops.length
        · have hbwu : Below w.heap.size w wu := hbw2.trans (hbx.mono z2)
          have k4 := fun wx (hb : Below wu.heap.size wu wx) => K2.out wx s S cS j (hbwu.trans (hb.mono hbwu.size)) (Hf3.out.up (hbx.trans (hb.mono hbxz))) f2 Hst.out hltj
          have j0 : (0 : Int) ≤ (j : Int) := by omega
          have j1 : (j : Int) < (t.ops.length : Int) := by omega
          cases e1 : hoB (opr t.ops j).pre s
          · rw [e1] at k4
            have HP := Lib.hid (show egK t k (j + 1) = egK t k j by unfold egK; rw [← Hs.out, egO_no e1])
            go_wp2_with fail
            refine (k4 _ (by repeat (first | exact Below.refl _ _ | refine below_dN ?_ _ | refine Below.drew ?_ | refine Below.alloc ?_ (by first | omega | (simp; done) | (simp; omega)) _ | refine Below.setCell ?_ (by first | omega | (simp; done) | (simp; omega)) _ | refine below_step (by assumption) (by first | omega | (simp; done) | (simp; omega)) ?_))).mono ?_
            rintro e w4 ⟨⟨v4, rfl, hg4⟩, hb4⟩
            have hb24 : Below w2.heap.size w2 w4 := hbx.trans (hb4.mono hbxz)
            have Ho := Lib.hid (own_below hown2.out hb4)
            clear z0 y0 y1 y2 y3 hg4
            go_wp2
            go_roundw
            case rel => exact ⟨j + 1, by omega, by go_num, Lib.hid (by rw [HP.out]; exact Ho.out), hb24⟩
            case measure => simp [intOf]; omega
          · rw [e1] at k4
            have HP := Lib.hid (show egK t k (j + 1) = egK t k j ++ [(k, j, num t (nxt t s j))] by unfold egK; rw [← Hs.out, egO_yes e1, List.append_assoc])
            have hst2 := st_nxt' HS.out.right Hst.out hltj
            have hnum := num_eq HS.out.right hst2
            have Hst2 := Lib.hid hst2
            obtain ⟨sn, hsn⟩ : ∃ sn, sn = nxt t s j := ⟨_, rfl⟩
            rw [if_pos rfl, ← hsn] at k4
            rw [← hsn] at hst2 hnum HP
            have hsl : sn.length = t.vars.length := stB_len hst2
            have k5 := fun wx A c (hb : Below wu.heap.size wu wx) (h : IntsAt wx wx.heap.size A sn) => K3.out wx sn A c (hbwu.trans (hb.mono hbwu.size)) h hst2
            rw [hsl, hnum.1] at k5
            have hlen := egK_len (t := t) (show k ≤ 512 by omega) hj ho
            have K5 := Lib.hid k5
            have Hsl := Lib.hid hsl
            clear hst2 hnum hsn Hst2 k5 hsl
            go_wp2_with fail
            refine (k4 _ (by repeat (first | exact Below.refl _ _ | refine below_dN ?_ _ | refine Below.drew ?_ | refine Below.alloc ?_ (by first | omega | (simp; done) | (simp; omega)) _ | refine Below.setCell ?_ (by first | omega | (simp; done) | (simp; omega)) _ | refine below_step (by assumption) (by first | omega | (simp; done) | (simp; omega)) ?_))).mono ?_
            rintro e w4 ⟨⟨v4, rfl, A4, c4, rfl, hA4, hg4⟩, hb4⟩
            have hb24 : Below w2.heap.size w2 w4 := hbx.trans (hb4.mono hbxz)
            clear z0 y0 y1 y2 y3 k4
            obtain ⟨z0, y0, y1, y2, y3⟩ := id (hbx2.up hb24)
            dsimp only at y0 y1 y2 y3
            have Ho := Lib.hid (own_below hown2.out hb4)
            have z4 := hb4.size
            rw [Hsl.out]
            go_wp2_with fail
            refine (K5.out _ A4 c4 hb4 hg4).mono ?_
            rintro e w5 ⟨rfl, hb5⟩
            have hb25 : Below w2.heap.size w2 w5 := hb24.trans (hb5.mono hb24.size)
            have Ho5 := Lib.hid (own_below Ho.out hb5)
            have z5 := hb5.size
            have z25 := hb25.size
            go_wp2_with (at_builtin; refine wpList_push rfl _ _ 100 rfl w2.heap.size 103 inf (.agg #[.int .i64 0, .int .i64 0, .int .i64 0]) 3 24 undEd hi iz0 iz1 iz2 rfl (by decide) (by decide) u3 (egK t k j).length (ec (egK t k j)) rfl (Ho5.out.alloc _) w5.heap.size 103 [.int .i64 (k : Int), .int .i64 (j : Int), .int .i64 (num t sn : Int)] rfl rfl (heap_alloc_new _ _) (three_one rfl rfl rfl) (by omega) (by first | omega | (simp; omega)) (B := w2.heap.size) (W := w2) (hb25.alloc z25 _) (Nat.le_refl _) ?_; intro v' w8 hown' hgrow hat hbw8; have Hown := Lib.hid hown'; clear hown' hgrow hat)
            go_roundw
            case rel => exact ⟨j + 1, by omega, by go_num, Lib.hid (by rw [HP.out, List.length_append, ec_app]; exact Hown.out), hbw8⟩
            case measure => simp [intOf]; omega
        · obtain rfl : j = t.ops.length := by omega
          have HP := Lib.hid (show egK t k t.ops.length = egN t (k + 1) from (egN_succ k).symm)
          go_wp2
          go_roundw
          case rel => exact ⟨k + 1, by omega, by go_num, Lib.hid (by rw [← HP.out]; exact hown2.out), hbx⟩
          case measure => simp [intOf]; omega
    · obtain rfl : k = (sts t.vars).length := by omega
      have hfr : FreshV w.heap.size u3 := fun g hg => Nat.le_trans hbw2.size (hown.out.lt g hg).1
      have Hfr := Lib.hid hfr
      clear hfr
      obtain ⟨A3, d, rfl, hfa⟩ := gotEdg_own hown.out
      have Hg := Lib.hid (show GotEdg wt (.slice A3 (egN t (sts t.vars).length).length d) (edges t) from ⟨A3, d, rfl, hfa⟩)
      clear hfa hown
      go_wp2
      go_ret
      exact ⟨⟨_, rfl, Hg.out, Hfr.out⟩, hbw2.trans (hbel.mono hbw2.size)⟩

end Go.Proofs.Ytenmeiplglbafaa

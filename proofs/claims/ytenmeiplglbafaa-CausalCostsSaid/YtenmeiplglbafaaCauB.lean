/- Arcs, the program's and the reference's. -/
import Derived.Test.YtenmeiplglbafaaCauA
import Derived.Test.YtenmeiplglbafaaGood
import Derived.Test.YtenmeiplglbafaaTaskJ
import Derived.Test.YtenmeiplglbafaaOwn
namespace Go.Proofs.Ytenmeiplglbafaa
set_option linter.unusedSimpArgs false
set_option linter.unusedVariables false
open Go.RowKit
set_option linter.unusedVariables false

theorem erV_ne {c : Int} (h : c ≠ 0) : erV c = .iface 43 (.int .i64 c) := by unfold erV; rw [if_neg h]
/-- Arcs as cells; a slice of arcs. -/
def ac (l : List (Nat × Nat)) : List Value := l.flatMap fun a => [.int .i64 (a.1 : Int), .int .i64 (a.2 : Int), .int .i64 1]
theorem ac_app (a b : List (Nat × Nat)) : ac (a ++ b) = ac a ++ ac b := by unfold ac; rw [List.flatMap_append]
theorem ac_len (l : List (Nat × Nat)) : (ac l).length = l.length * 3 := by
  induction l with
  | nil => rfl
  | cons f l ih => show (_ :: _ :: _ :: ac l).length = _; simp only [List.length_cons, ih]; omega
def arc (l : List (Nat × Nat)) (k : Nat) : Nat × Nat := l.getD k (0, 0)
theorem ac_get : ∀ (l : List (Nat × Nat)) (k : Nat), k < l.length → (ac l)[k * 3]? = some (.int .i64 ((arc l k).1 : Int)) ∧ (ac l)[k * 3 + 1]? = some (.int .i64 ((arc l k).2 : Int)) ∧ (ac l)[k * 3 + 2]? = some (.int .i64 1)
  | f :: l, 0, _ => ⟨rfl, rfl, rfl⟩
  | f :: l, k + 1, h => by
    obtain ⟨h1, h2, h3⟩ := ac_get l k (by simp at h; omega)
    have e : ac (f :: l) = .int .i64 (f.1 : Int) :: .int .i64 (f.2 : Int) :: .int .i64 1 :: ac l := rfl
    rw [e, show (k + 1) * 3 = k * 3 + 1 + 1 + 1 by omega]
    exact ⟨h1, h2, h3⟩
theorem infoA : (Try.prog.info? 111).map (fun i => (i.zero, i.size, i.bytes)) = some (some (.agg #[.int .i64 0, .int .i64 0, .int .i64 0]), 3, 24) := by kernel_rfl
theorem undA : Try.prog.underlying 105 = some (.slice 111) := by kernel_rfl
def ArcsAt (w : World) (B : Nat) (A : Option Addr) (l : List (Nat × Nat)) : Prop :=
  0 < l.length → ∃ b, A = some ⟨b, 0, none⟩ ∧ b < B ∧ ∀ k, k < l.length → w.cell? ⟨b, k * 3, none⟩ = some (.int .i64 ((arc l k).1 : Int)) ∧ w.cell? ⟨b, k * 3 + 1, none⟩ = some (.int .i64 ((arc l k).2 : Int)) ∧ w.cell? ⟨b, k * 3 + 2, none⟩ = some (.int .i64 1)
def GotArcs (w : World) (v : Value) (l : List (Nat × Nat)) : Prop := ∃ A c, v = .slice A l.length c ∧ ArcsAt w w.heap.size A l
theorem ArcsAt.up {w w' : World} {A : Option Addr} {l : List (Nat × Nat)} (h : ArcsAt w w.heap.size A l) (hb : Below w.heap.size w w') : ArcsAt w' w'.heap.size A l := fun h0 => by
  obtain ⟨b, e, hlt, hc⟩ := h h0
  exact ⟨b, e, Nat.lt_of_lt_of_le hlt hb.size, fun k hk => ⟨(hb.cell (p := ⟨b, _, none⟩) hlt).trans (hc k hk).1, (hb.cell (p := ⟨b, _, none⟩) hlt).trans (hc k hk).2.1, (hb.cell (p := ⟨b, _, none⟩) hlt).trans (hc k hk).2.2⟩⟩
theorem gotArcs_own {w : World} {B : Nat} {v : Value} {l : List (Nat × Nat)} (h : w.ownsRow B 111 3 v l.length (ac l)) : GotArcs w v l := by
  rcases h.2 with ⟨rfl, h0⟩ | ⟨b, cap, cur, rfl, hb, hg, hnc, hcm, hcs, htk⟩
  · exact ⟨none, 0, by rw [h0], fun hn => absurd hn (by omega)⟩
  · have hcell : ∀ i u, (ac l)[i]? = some u → w.cell? ⟨b, i, none⟩ = some u := fun i u hi => by
      rw [cell_of_row w b i cur 111 (0, 0) hg]
      rw [← htk, List.getElem?_take] at hi
      split at hi
      · simpa using hi
      · cases hi
    exact ⟨_, cap, rfl, fun _ => ⟨b, rfl, (Array.getElem?_eq_some_iff.1 hg).1, fun k hk => ⟨hcell _ _ (ac_get l k hk).1, hcell _ _ (ac_get l k hk).2.1, hcell _ _ (ac_get l k hk).2.2⟩⟩⟩
/-- What has been gathered: rows u before, the first v of row u. -/
def arK (t : Tsk) (u v : Nat) : List (Nat × Nat) := arL t u ++ arR t u v
theorem arK_zero (t : Tsk) (u : Nat) : arK t u 0 = arL t u := by unfold arK arR; simp
theorem arK_end (t : Tsk) (u : Nat) : arK t u t.vars.length = arL t (u + 1) := (arL_succ t u).symm
theorem arK_yes {t : Tsk} {u v : Nat} (h : arB t u v = true) : arK t u (v + 1) = arK t u v ++ [(u, v)] := by unfold arK; rw [arR_yes h, List.append_assoc]
theorem arK_no {t : Tsk} {u v : Nat} (h : arB t u v = false) : arK t u (v + 1) = arK t u v := by unfold arK; rw [arR_no h]
theorem arK_len {t : Tsk} {u v : Nat} (hn : t.vars.length ≤ 64) (hu : u ≤ 64) (hv : v ≤ 64) : (arK t u v).length ≤ 10000 := by
  unfold arK
  rw [List.length_append]
  have h1 := arL_len t u
  have h2 := arR_len t u v
  have h3 : u * t.vars.length ≤ 64 * 64 := Nat.mul_le_mul hu hn
  omega
def ArcRet (l : List (Nat × Nat)) (cv : Value) (e : Ending) (w' : World) : Prop := ∃ v, e = .returned (.tuple #[v, cv]) ∧ GotArcs w' v l
theorem gotArcs_nil (w : World) : GotArcs w (.slice none 0 0) [] := ⟨none, 0, rfl, fun h => absurd h (by simp)⟩

set_option maxRecDepth 100000 in
set_option maxHeartbeats 8000000 in
theorem arcs_any (t : Tsk) (p : Lies) (w : World) (ht : TaskAt w w.heap.size t p) :
    Calls Try.prog 55 #[TaskV t p] w fun e w' => ArcRet (if chkC t = 0 then arcs t else []) (erV (chkC t)) e w' ∧ Below w.heap.size w w' := by
  have k1 := fun w1 (hb : Below w.heap.size w w1) => tcheck_any t p w1 (ht.up hb)
  have k2 := fun w1 hr (hb : Below w.heap.size w w1) => depends_any t p w1 (ht.up hb) hr
  obtain ⟨av, ai, ag, ao, cv, ci, cg, co⟩ := p
  unfold TaskV at *
  dsimp only at *
  by_cases e0 : chkC t = 0
  case neg =>
    rw [if_neg e0]
    have He := Lib.hid (erV_ne e0)
    simp only [He.out] at k1 ⊢
    clear e0
    go_enter Try.func55, Try.ntmps55
    go_wp2_with fail; refine (k1 _ (by repeat (first | exact Below.refl _ _ | refine below_dN ?_ _ | refine Below.drew ?_ | refine Below.alloc ?_ (by first | omega | (simp; done) | (simp; omega)) _ | refine Below.setCell ?_ (by first | omega | (simp; done) | (simp; omega)) _ | refine below_step (by assumption) (by first | omega | (simp; done) | (simp; omega)) ?_))).mono ?_; rintro e w1 ⟨rfl, hb1⟩; obtain ⟨hc1, hf1, hz1, hlt1, hle1⟩ := cellsIf hb1 (by (try simp); exact rfl); (try have : w.heap.size < w1.heap.size := (by omega)); (try have : w.heap.size < w1.heap.size + 1 := (by omega)); (try have : w.heap.size < w1.heap.size + 1 + 1 := (by omega)); (try have : w.heap.size + 1 < w1.heap.size := (by omega)); (try have : w.heap.size + 1 < w1.heap.size + 1 := (by omega)); (try have : w.heap.size + 1 < w1.heap.size + 1 + 1 := (by omega)); (try have : w.heap.size + 1 + 1 < w1.heap.size := (by omega)); (try have : w.heap.size + 1 + 1 < w1.heap.size + 1 := (by omega)); (try have : w.heap.size + 1 + 1 < w1.heap.size + 1 + 1 := (by omega))
    go_wp2
    refine bodyPost_ret (v := .tuple #[.slice none 0 0, .iface 43 (.int .i64 (chkC t))]) (by simp [results, Try.results55, go_sem]) rfl ⟨⟨_, rfl, gotArcs_nil _⟩, by repeat (first | exact Below.refl _ _ | refine below_dN ?_ _ | refine Below.drew ?_ | refine Below.alloc ?_ (by first | omega | (simp; done) | (simp; omega)) _ | refine Below.setCell ?_ (by first | omega | (simp; done) | (simp; omega)) _ | refine below_step (by assumption) (by first | omega | (simp; done) | (simp; omega)) ?_)⟩
  have hr := right_of e0
  have n64 := hr.nv
  have k3 := fun w1 => k2 w1 hr
  rw [if_pos e0]
  simp only [e0, erV_0] at k1 ⊢
  clear e0 hr k2
  obtain ⟨inf, hi, iz0, iz1, iz2⟩ := info_parts infoA
  go_enter Try.func55, Try.ntmps55
  go_wp2_with fail; refine (k1 _ (by repeat (first | exact Below.refl _ _ | refine below_dN ?_ _ | refine Below.drew ?_ | refine Below.alloc ?_ (by first | omega | (simp; done) | (simp; omega)) _ | refine Below.setCell ?_ (by first | omega | (simp; done) | (simp; omega)) _ | refine below_step (by assumption) (by first | omega | (simp; done) | (simp; omega)) ?_))).mono ?_; rintro e w1 ⟨rfl, hb1⟩; obtain ⟨hc1, hf1, hz1, hlt1, hle1⟩ := cellsIf hb1 (by (try simp); exact rfl); (try have : w.heap.size < w1.heap.size := (by omega)); (try have : w.heap.size < w1.heap.size + 1 := (by omega)); (try have : w.heap.size < w1.heap.size + 1 + 1 := (by omega)); (try have : w.heap.size + 1 < w1.heap.size := (by omega)); (try have : w.heap.size + 1 < w1.heap.size + 1 := (by omega)); (try have : w.heap.size + 1 < w1.heap.size + 1 + 1 := (by omega)); (try have : w.heap.size + 1 + 1 < w1.heap.size := (by omega)); (try have : w.heap.size + 1 + 1 < w1.heap.size + 1 := (by omega)); (try have : w.heap.size + 1 + 1 < w1.heap.size + 1 + 1 := (by omega))
  have hbx1 : Boxed w1 w.heap.size t ⟨av, ai, ag, ao, cv, ci, cg, co⟩ := Boxed.up (by constructor <;> simp) hb1
  have hbw1 : Below w.heap.size w w1 := by repeat (first | exact Below.refl _ _ | refine below_dN ?_ _ | refine Below.drew ?_ | refine Below.alloc ?_ (by first | omega | (simp; done) | (simp; omega)) _ | refine Below.setCell ?_ (by first | omega | (simp; done) | (simp; omega)) _ | refine below_step (by assumption) (by first | omega | (simp; done) | (simp; omega)) ?_)
  clear hc1 hf1 hlt1 hle1
  obtain ⟨z0, y0, y1, y2, y3⟩ := id hbx1
  dsimp only at y0 y1 y2 y3
  go_wp2_with fail
  refine (k3 _ hbw1).mono ?_
  rintro e w2 ⟨⟨g, rb, rfl, hmat, hg, hrb⟩, hb2⟩
  have hbx2 := hbx1.up hb2
  have hbw : Below w.heap.size w w2 := hbw1.trans (hb2.mono hbw1.size)
  clear z0 y0 y1 y2 y3 hbx1 hb1 hb2 hbw1 hz1
  obtain ⟨z0, y0, y1, y2, y3⟩ := id hbx2
  dsimp only at y0 y1 y2 y3
  go_wp2
  go_loopw [6, 19] (fun v i wr => ∃ (k : Nat), k ≤ t.vars.length ∧ i = .int .i64 k ∧ wr.ownsRow w2.heap.size 111 3 v (arL t k).length (ac (arL t k)) ∧ Below w2.heap.size w2 wr) (fun _ i _ => t.vars.length - (intOf i).toNat)
  case atStart => exact ⟨0, by omega, rfl, World.ownsRow_nil _ _ _ _, Below.refl _ _⟩
  case round =>
    clear z0 y0 y1 y2 y3
    obtain ⟨u, hu, rfl, hown, hbel⟩ := hrel
    obtain ⟨wt, rfl⟩ : ∃ wt : World, wt = wr := ⟨_, rfl⟩
    obtain ⟨z0, y0, y1, y2, y3⟩ := id (hbx2.up hbel)
    dsimp only at y0 y1 y2 y3
    have hbz := hbel.size
    by_cases hlt : u < t.vars.length
    · go_wp2
      go_loopw [6, 25] (fun v i wr => ∃ (j : Nat), j ≤ t.vars.length ∧ i = .int .i64 j ∧ wr.ownsRow w2.heap.size 111 3 v (arK t u j).length (ac (arK t u j)) ∧ Below w2.heap.size w2 wr) (fun _ i _ => t.vars.length - (intOf i).toNat)
      case atStart => exact ⟨0, by omega, rfl, by rw [arK_zero]; exact hown, hbel⟩
      case round =>
        obtain ⟨j, hj, rfl, hown2, hbx⟩ := hrel
        have hbxz := hbx.size
        by_cases hltj : j < t.vars.length
        · have m := hmat.up hbx
          have m1 := m.top j hltj
          have m2 := m.cell (u := u) hltj hlt
          have m4 := m.rlt hltj
          have m5 := m.glt
          have x0 : (0 : Int) ≤ (u : Int) := by omega
          have x1 : (u : Int) < (t.vars.length : Int) := by omega
          have x2 : (0 : Int) ≤ (j : Int) := by omega
          have x3 : (j : Int) < (t.vars.length : Int) := by omega
          have hlen := arK_len (t := t) n64 (show u ≤ 64 by omega) (show j ≤ 64 by omega)
          clear m
          cases e1 : arB t u j
          · rw [e1] at m2
            have HP := Lib.hid (arK_no e1)
            go_wp2
            go_roundw
            case rel => exact ⟨j + 1, by omega, by go_num, by rw [HP.out]; exact hown2, hbx⟩
            case measure => simp [intOf]; omega
          · rw [e1] at m2
            have HP := Lib.hid (arK_yes e1)
            go_wp2_with (at_builtin; refine wpList_push rfl _ _ 105 rfl w2.heap.size 111 inf (.agg #[.int .i64 0, .int .i64 0, .int .i64 0]) 3 24 undA hi iz0 iz1 iz2 rfl (by decide) (by decide) u6 (arK t u j).length (ac (arK t u j)) rfl (hown2.alloc _) wr.heap.size 111 [.int .i64 (u : Int), .int .i64 (j : Int), .int .i64 1] rfl rfl (heap_alloc_new _ _) (three_one rfl rfl rfl) (by omega) (by first | omega | (simp; omega)) (B := w2.heap.size) (W := w2) (hbx.alloc hbxz _) (Nat.le_refl _) ?_; intro v' w8 hown' hgrow hat hbw8; have Hown := Lib.hid hown'; clear hown' hgrow hat)
            go_roundw
            case rel => exact ⟨j + 1, by omega, by go_num, by rw [HP.out, List.length_append, ac_app]; exact Hown.out, hbw8⟩
            case measure => simp [intOf]; omega
        · obtain rfl : j = t.vars.length := by omega
          go_wp2
          go_roundw
          case rel => exact ⟨u + 1, by omega, by go_num, by rw [← arK_end]; exact hown2, hbx⟩
          case measure => simp [intOf]; omega
    · obtain rfl : u = t.vars.length := by omega
      obtain ⟨A, d, rfl, hfa⟩ := gotArcs_own hown
      have Hg := Lib.hid (show GotArcs wt (.slice A (arL t t.vars.length).length d) (arcs t) from ⟨A, d, rfl, hfa⟩)
      clear hfa hown
      go_wp2
      refine bodyPost_ret (v := .tuple #[.slice A (arL t t.vars.length).length d, .nilIface]) (by simp [results, Try.results55, go_sem]) rfl ⟨⟨_, rfl, Hg.out⟩, hbw.trans (hbel.mono hbw.size)⟩

end Go.Proofs.Ytenmeiplglbafaa

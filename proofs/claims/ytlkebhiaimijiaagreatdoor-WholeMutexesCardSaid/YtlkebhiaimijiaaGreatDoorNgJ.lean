/- Texts laid together: EdgW, DisP, VaD. -/
import Derived.Test.YtlkebhiaimijiaaGreatDoorBel
import Derived.Test.YtlkebhiaimijiaaGreatDoorNgI
import Derived.Test.YtlkebhiaimijiaaGreatDoorGood
import Derived.Test.YtlkebhiaimijiaaGreatDoorNgG
namespace Go.Proofs.YtlkebhiaimijiaaGreatDoor
set_option linter.unusedSimpArgs false
set_option linter.unusedVariables false
section
open Go Go.RowKit
set_option linter.unusedVariables false

/-- Edges as cells; a slice of edges. -/
def ec (l : List (Nat × Nat × Nat)) : List Value := l.flatMap fun a => [.int .i64 (a.1 : Int), .int .i64 (a.2.1 : Int), .int .i64 (a.2.2 : Int)]
theorem ec_app (a b : List (Nat × Nat × Nat)) : ec (a ++ b) = ec a ++ ec b := by unfold ec; rw [List.flatMap_append]
theorem ec_len (l : List (Nat × Nat × Nat)) : (ec l).length = l.length * 3 := by
 induction l with
 | nil => rfl
 | cons f l ih => show (_ :: _ :: _ :: ec l).length = _; simp only [List.length_cons, ih]; omega
theorem ec_get : ∀ (l : List (Nat × Nat × Nat)) (k : Nat), k < l.length → (ec l)[k * 3]? = some (.int .i64 ((egd l k).1 : Int)) ∧ (ec l)[k * 3 + 1]? = some (.int .i64 ((egd l k).2.1 : Int)) ∧ (ec l)[k * 3 + 2]? = some (.int .i64 ((egd l k).2.2 : Int))
 | f :: l, 0, _ => ⟨rfl, rfl, rfl⟩
 | f :: l, k + 1, h => by
  obtain ⟨h1, h2, h3⟩ := ec_get l k (by simp at h; omega)
  have e : ec (f :: l) = .int .i64 (f.1 : Int) :: .int .i64 (f.2.1 : Int) :: .int .i64 (f.2.2 : Int) :: ec l := rfl
  rw [e, show (k + 1) * 3 = k * 3 + 1 + 1 + 1 by omega]
  exact ⟨h1, h2, h3⟩
theorem infoEd : (Tryz.prog.info? 139).map (fun i => (i.zero, i.size, i.bytes)) = some (some (.agg #[.int .i64 0, .int .i64 0, .int .i64 0]), 3, 24) := by kernel_rfl
theorem undEd : Tryz.prog.underlying 136 = some (.slice 139) := by kernel_rfl
def EdgAt (w : World) (B : Nat) (A : Option Addr) (l : List (Nat × Nat × Nat)) : Prop :=
 0 < l.length → ∃ b, A = some ⟨b, 0, none⟩ ∧ b < B ∧ ∀ k, k < l.length → w.cell? ⟨b, k * 3, none⟩ = some (.int .i64 ((egd l k).1 : Int)) ∧ w.cell? ⟨b, k * 3 + 1, none⟩ = some (.int .i64 ((egd l k).2.1 : Int)) ∧ w.cell? ⟨b, k * 3 + 2, none⟩ = some (.int .i64 ((egd l k).2.2 : Int))
def GotEdg (w : World) (v : Value) (l : List (Nat × Nat × Nat)) : Prop := ∃ A c, v = .slice A l.length c ∧ EdgAt w w.heap.size A l
theorem EdgAt.up {w w' : World} {A : Option Addr} {l : List (Nat × Nat × Nat)} (h : EdgAt w w.heap.size A l) (hb : Below w.heap.size w w') : EdgAt w' w'.heap.size A l := fun h0 => by
 obtain ⟨b, e, hlt, hc⟩ := h h0
 exact ⟨b, e, Nat.lt_of_lt_of_le hlt hb.size, fun k hk => ⟨(hb.cell (p := ⟨b, _, none⟩) hlt).trans (hc k hk).1, (hb.cell (p := ⟨b, _, none⟩) hlt).trans (hc k hk).2.1, (hb.cell (p := ⟨b, _, none⟩) hlt).trans (hc k hk).2.2⟩⟩
/-- The block, if any, is no elder one. -/
def FreshV (B : Nat) (v : Value) : Prop := ∀ g, v.ownBlock = some g → B ≤ g
theorem gotEdg_own {w : World} {B : Nat} {v : Value} {l : List (Nat × Nat × Nat)} (h : w.ownsRow B 139 3 v l.length (ec l)) : GotEdg w v l := by
 rcases h.2 with ⟨rfl, h0⟩ | ⟨b, cap, cur, rfl, hb, hg, hnc, hcm, hcs, htk⟩
 ·exact ⟨none, 0, by rw [h0], fun hn => absurd hn (by omega)⟩
 ·have hcell : ∀ i u, (ec l)[i]? = some u → w.cell? ⟨b, i, none⟩ = some u := fun i u hi => by
   rw [cell_of_row w b i cur 139 (0, 0) hg]
   rw [← htk, List.getElem?_take] at hi
   split at hi
   ·simpa using hi
   ·cases hi
  exact ⟨_, cap, rfl, fun _ => ⟨b, rfl, (Array.getElem?_eq_some_iff.1 hg).1, fun k hk => ⟨hcell _ _ (ec_get l k hk).1, hcell _ _ (ec_get l k hk).2.1, hcell _ _ (ec_get l k hk).2.2⟩⟩⟩
def egK (t : Tsk) (i j : Nat) : List (Nat × Nat × Nat) := egN t i ++ egO t (row (sts t.vars) i) i j
theorem egK_len {t : Tsk} {i j : Nat} (hi : i ≤ 512) (hj : j ≤ t.ops.length) (ho : t.ops.length ≤ 20) : (egK t i j).length ≤ 20000 := by
 unfold egK
 rw [List.length_append]
 have h1 := egN_len (t := t) i
 have h2 := egO_len (t := t) (row (sts t.vars) i) i j
 have h3 : i * t.ops.length ≤ 512 * 20 := Nat.mul_le_mul hi ho
 omega
theorem st_nxt' {t : Tsk} (hr : Right t) {s : List Int} (hs : stB t.vars s = true) {k : Nat} (hk : k < t.ops.length) : stB t.vars (nxt t s k) = true := by
 unfold stB at *
 simp only [decide_eq_true_eq] at *
 have key : ∀ j, j ≤ (opr t.ops k).effs.length → StP t.vars (apE s (opr t.ops k).effs j) := fun j => by
  induction j with
  | zero => intro _; exact hs
  | succ j ih =>
   intro hj
   have h1 := ih (by omega)
   have he := hr.eff k hk j (by omega)
   unfold apE
   split
   ·refine ⟨by rw [List.length_set]; exact h1.1, fun v hv => ?_⟩
    rw [List.length_set] at hv
    rw [nth_set (by rw [h1.1]; omega)]
    split
    ·rename_i e; subst e; exact ⟨he.2.2.1, he.2.2.2⟩
    ·exact h1.2 v hv
   ·exact h1
 exact key _ (Nat.le_refl _)

set_option maxRecDepth 100000 in
set_option maxHeartbeats 16000000 in
theorem bedges_any (t : Tsk) (p : Lies) (w : World) (ht : TaskAt w w.heap.size t p) (hs : Smll t) :
  Calls Tryz.prog 66 #[TaskV t p] w fun e w' => (∃ v, e = .returned v ∧ GotEdg w' v (edges t) ∧ FreshV w.heap.size v) ∧ Below w.heap.size w w' := by
 have k1 := fun w1 (hb : Below w.heap.size w w1) => bstates_any t.vars p.av p.cv w1 (ht.vars.up hb) hs.right.dom (by have := hs.many; omega) hs.right.nv
 have k2 := fun w1 (s : List Int) (A : Option Addr) (c k : Nat) (hb : Below w.heap.size w w1) (h : IntsAt w1 w1.heap.size A s) (hc : A = none → c = 0) (hst : stB t.vars s = true) (hk : k < t.ops.length) =>
  bapply_any t p s A c k w1 (ht.up hb) h hc (chk0 hs.chk).1 (chk0 hs.chk).2.2.1 hst hk
 have k3 := fun w1 (s : List Int) (A : Option Addr) (c : Nat) (hb : Below w.heap.size w w1) (h : IntsAt w1 w1.heap.size A s) (hst : stB t.vars s = true) =>
  brank_any t.vars s p.av A p.cv c w1 (ht.vars.up hb) h (by unfold stB at hst; simpa using hst) hs.right.dom (by have := hs.many; omega)
 have hN := sts_len hs.right
 have hN2 := hs.many
 have ho := hs.no
 have HS := Lib.hid hs
 have K1 := Lib.hid k1
 have K2 := Lib.hid k2
 have K3 := Lib.hid k3
 clear hs k1 k2 k3
 obtain ⟨av, ai, ag, ao, cv, ci, cg, co⟩ := p
 unfold TaskV at *
 dsimp only at *
 obtain ⟨inf, hi, iz0, iz1, iz2⟩ := info_parts infoEd
 have hN3 : (sts t.vars).length ≤ 512 := by omega
 clear hN hN2
 go_enter Tryz.func66, Tryz.ntmps66
 go_wp2_with fail
 refine (K1.out _ (by exact bel)).mono ?_
 rintro e w2 ⟨⟨v2, rfl, A, c, rfl, hrows⟩, hb2⟩
 have hbx2 : Boxed w2 w.heap.size t ⟨av, ai, ag, ao, cv, ci, cg, co⟩ := Boxed.up (by constructor <;> simp) hb2
 have hbw2 : Below w.heap.size w w2 := ((Below.refl _ _).alloc (Nat.le_refl _) _).trans (hb2.mono (by simp))
 have Hrows := Lib.hid hrows
 have z2 := hbw2.size
 clear hrows hb2
 obtain ⟨z0, y0, y1, y2, y3⟩ := id hbx2
 dsimp only at y0 y1 y2 y3
 go_wp2
 go_loopw [3, 13] (fun v i wr => ∃ (k : Nat), k ≤ (sts t.vars).length ∧ i = .int .i64 k ∧ Hid (wr.ownsRow w2.heap.size 139 3 v (egN t k).length (ec (egN t k))) ∧ Below w2.heap.size w2 wr) (fun _ i _ => (sts t.vars).length - (intOf i).toNat)
 case atStart => exact ⟨0, by omega, rfl, Lib.hid (World.ownsRow_nil _ _ _ _), Below.refl _ _⟩
 case round =>
  clear z0 y0 y1 y2 y3
  obtain ⟨k, hk, rfl, hown, hbel⟩ := hrel
  obtain ⟨wt, rfl⟩ : ∃ wt : World, wt = wr := ⟨_, rfl⟩
  obtain ⟨z0, y0, y1, y2, y3⟩ := id (hbx2.up hbel)
  dsimp only at y0 y1 y2 y3
  have hbz := hbel.size
  by_cases hlt : k < (sts t.vars).length
  ·obtain ⟨b1, eA, hb1, hc1⟩ := Hrows.out (by omega)
   subst eA
   obtain ⟨S, cS, f1, f2, f3⟩ := hc1 k hlt
   have d1 := (hbel.cell (p := ⟨b1, k, none⟩) hb1).trans f1
   have g1 : b1 < wt.heap.size := by omega
   have k0 : (0 : Int) ≤ (k : Int) := by omega
   have k1 : (k : Int) < ((sts t.vars).length : Int) := by omega
   have hst := sts_st HS.out.right hlt
   obtain ⟨s, hs⟩ : ∃ s, s = row (sts t.vars) k := ⟨_, rfl⟩
   rw [← hs] at d1 f3 hst
   have Hst := Lib.hid hst
   have Hs := Lib.hid hs
   have Hf3 := Lib.hid f3
   clear hc1 f1 f3 hst hs
   go_wp2
   go_loopw [3, 21] (fun v i wr => ∃ (j : Nat), j ≤ t.ops.length ∧ i = .int .i64 j ∧ Hid (wr.ownsRow w2.heap.size 139 3 v (egK t k j).length (ec (egK t k j))) ∧ Below w2.heap.size w2 wr) (fun _ i _ => t.ops.length - (intOf i).toNat)
   case atStart => exact ⟨0, by omega, rfl, Lib.hid (by unfold egK; rw [egO_zero, List.append_nil]; exact hown.out), hbel⟩
   case round =>
    clear z0 y0 y1 y2 y3
    obtain ⟨j, hj, rfl, hown2, hbx⟩ := hrel
    obtain ⟨z0, y0, y1, y2, y3⟩ := id (hbx2.up hbx)
    dsimp only at y0 y1 y2 y3
    have hbxz := hbx.size
    obtain ⟨wu, rfl⟩ : ∃ wu : World, wu = wr := ⟨_, rfl⟩
    by_cases hltj : j < t.ops.length
    ·have hbwu : Below w.heap.size w wu := hbw2.trans (hbx.mono z2)
     have k4 := fun wx (hb : Below wu.heap.size wu wx) => K2.out wx s S cS j (hbwu.trans (hb.mono hbwu.size)) (Hf3.out.up (hbx.trans (hb.mono hbxz))) f2 Hst.out hltj
     have j0 : (0 : Int) ≤ (j : Int) := by omega
     have j1 : (j : Int) < (t.ops.length : Int) := by omega
     cases e1 : hoB (opr t.ops j).pre s
     ·rw [e1] at k4
      have HP := Lib.hid (show egK t k (j + 1) = egK t k j by unfold egK; rw [← Hs.out, egO_no e1])
      go_wp2_with fail
      refine (k4 _ (by exact bel)).mono ?_
      rintro e w4 ⟨⟨v4, rfl, hg4⟩, hb4⟩
      have hb24 : Below w2.heap.size w2 w4 := hbx.trans (hb4.mono hbxz)
      have Ho := Lib.hid (own_below hown2.out hb4)
      clear z0 y0 y1 y2 y3 hg4
      go_wp2
      go_roundw
      case rel => exact ⟨j + 1, by omega, by go_num, Lib.hid (by rw [HP.out]; exact Ho.out), hb24⟩
      case measure => simp [intOf]; omega
     ·rw [e1] at k4
      have HP := Lib.hid (show egK t k (j + 1) = egK t k j ++ [(k, j, num t (nxt t s j))] by unfold egK; rw [← Hs.out, egO_yes e1, List.append_assoc])
      have hst2 := st_nxt' HS.out.right Hst.out hltj
      have hnum := num_eq HS.out.right hst2
      have Hst2 := Lib.hid hst2
      obtain ⟨sn, hsn⟩ : ∃ sn, sn = nxt t s j := ⟨_, rfl⟩
      rw [if_pos rfl, ← hsn] at k4
      rw [← hsn] at hst2 hnum HP
      have hsl : sn.length = t.vars.length := stB_len hst2
      have k5 := fun wx A c (hb : Below wu.heap.size wu wx) (h : IntsAt wx wx.heap.size A sn) => K3.out wx sn A c (hbwu.trans (hb.mono hbwu.size)) h hst2
      rw [hsl, hnum.1] at k5
      have hlen := egK_len (t := t) (show k ≤ 512 by omega) hj ho
      have K5 := Lib.hid k5
      have Hsl := Lib.hid hsl
      clear hst2 hnum hsn Hst2 k5 hsl
      go_wp2_with fail
      refine (k4 _ (by exact bel)).mono ?_
      rintro e w4 ⟨⟨v4, rfl, A4, c4, rfl, hA4, hg4⟩, hb4⟩
      have hb24 : Below w2.heap.size w2 w4 := hbx.trans (hb4.mono hbxz)
      clear z0 y0 y1 y2 y3 k4
      obtain ⟨z0, y0, y1, y2, y3⟩ := id (hbx2.up hb24)
      dsimp only at y0 y1 y2 y3
      have Ho := Lib.hid (own_below hown2.out hb4)
      have z4 := hb4.size
      rw [Hsl.out]
      go_wp2_with fail
      refine (K5.out _ A4 c4 hb4 hg4).mono ?_
      rintro e w5 ⟨rfl, hb5⟩
      have hb25 : Below w2.heap.size w2 w5 := hb24.trans (hb5.mono hb24.size)
      have Ho5 := Lib.hid (own_below Ho.out hb5)
      have z5 := hb5.size
      have z25 := hb25.size
      go_wp2_with (at_builtin; refine wpList_push rfl _ _ 136 rfl w2.heap.size 139 inf (.agg #[.int .i64 0, .int .i64 0, .int .i64 0]) 3 24 undEd hi iz0 iz1 iz2 rfl (by decide) (by decide) u3 (egK t k j).length (ec (egK t k j)) rfl (Ho5.out.alloc _) w5.heap.size 139 [.int .i64 (k : Int), .int .i64 (j : Int), .int .i64 (num t sn : Int)] rfl rfl (heap_alloc_new _ _) (three_one rfl rfl rfl) (by omega) (by first | omega | (simp; omega)) (B := w2.heap.size) (W := w2) (hb25.alloc z25 _) (Nat.le_refl _) ?_; intro v' w8 hown' hgrow hat hbw8; have Hown := Lib.hid hown'; clear hown' hgrow hat)
      go_roundw
      case rel => exact ⟨j + 1, by omega, by go_num, Lib.hid (by rw [HP.out, List.length_append, ec_app]; exact Hown.out), hbw8⟩
      case measure => simp [intOf]; omega
    ·obtain rfl : j = t.ops.length := by omega
     have HP := Lib.hid (show egK t k t.ops.length = egN t (k + 1) from (egN_succ k).symm)
     go_wp2
     go_roundw
     case rel => exact ⟨k + 1, by omega, by go_num, Lib.hid (by rw [← HP.out]; exact hown2.out), hbx⟩
     case measure => simp [intOf]; omega
  ·obtain rfl : k = (sts t.vars).length := by omega
   have hfr : FreshV w.heap.size u3 := fun g hg => Nat.le_trans hbw2.size (hown.out.lt g hg).1
   have Hfr := Lib.hid hfr
   clear hfr
   obtain ⟨A3, d, rfl, hfa⟩ := gotEdg_own hown.out
   have Hg := Lib.hid (show GotEdg wt (.slice A3 (egN t (sts t.vars).length).length d) (edges t) from ⟨A3, d, rfl, hfa⟩)
   clear hfa hown
   go_wp2
   go_ret
   exact ⟨⟨_, rfl, Hg.out, Hfr.out⟩, hbw2.trans (hbel.mono hbw2.size)⟩
end

section
open Go.RowKit
set_option linter.unusedVariables false

def INF : Int := 1125899906842624
/-- A plan from a state to the goal, and its cost. -/
inductive PlanC (t : Tsk) : List Int → Int → Prop
 | goal {s : List Int} : hoB t.goal s = true → PlanC t s 0
 | step {s : List Int} {k : Nat} {c : Int} : k < t.ops.length → hoB (opr t.ops k).pre s = true → PlanC t (nxt t s k) c → PlanC t s ((opr t.ops k).cost + c)
/-- The least cost, at most INF. -/
structure IsBest (t : Tsk) (s : List Int) (d : Int) : Prop where
 lo : 0 ≤ d
 hi : d ≤ INF
 real : d = INF ∨ PlanC t s d
 least : ∀ c, PlanC t s c → d ≤ c
theorem best_le {t t' : Tsk} {s s' : List Int} {d d' : Int} (h : IsBest t s d) (h' : IsBest t' s' d') (hp : ∀ c, PlanC t s c → ∃ c', c' ≤ c ∧ PlanC t' s' c') : d' ≤ d := by
 rcases h.real with e | e
 ·rw [e]; exact h'.hi
 ·obtain ⟨c', h1, h2⟩ := hp _ e
  have := h'.least _ h2
  omega
/-- A sum of a function's first values. -/
def sumF (D : Nat → Int) : Nat → Nat
 | 0 => 0
 | n + 1 => sumF D n + (D n).toNat
def setD (D : Nat → Int) (j : Nat) (x : Int) (v : Nat) : Int := if v = j then x else D v
theorem sumF_same {D D' : Nat → Int} : ∀ {n : Nat}, (∀ v, v < n → D v = D' v) → sumF D n = sumF D' n
 | 0, _ => rfl
 | n + 1, h => by show sumF D n + _ = sumF D' n + _; rw [sumF_same (n := n) fun v hv => h v (by omega), h n (by omega)]
theorem sumF_set {D : Nat → Int} {j : Nat} {x : Int} : ∀ {n : Nat}, j < n → sumF (setD D j x) n + (D j).toNat = sumF D n + x.toNat
 | 0, h => absurd h (by omega)
 | n + 1, h => by
  show sumF (setD D j x) n + (setD D j x n).toNat + (D j).toNat = sumF D n + (D n).toNat + x.toNat
  by_cases e : j = n
  ·subst e
   have h1 : sumF (setD D j x) j = sumF D j := sumF_same fun v hv => by unfold setD; rw [if_neg (by omega)]
   have h2 : setD D j x j = x := by unfold setD; rw [if_pos rfl]
   rw [h1, h2]; omega
  ·have h1 := sumF_set (D := D) (x := x) (show j < n by omega)
   have h2 : setD D j x n = D n := by unfold setD; rw [if_neg (by omega)]
   rw [h2]; omega
def flN (c : Bool) : Nat := if c then 1 else 0
/-- What holds of the table. -/
structure Dst (t : Tsk) (D : Nat → Int) : Prop where
 rng : ∀ i, i < (sts t.vars).length → 0 ≤ D i ∧ D i ≤ INF
 real : ∀ i, i < (sts t.vars).length → D i = INF ∨ PlanC t (row (sts t.vars) i) (D i)
 goal : ∀ i, i < (sts t.vars).length → hoB t.goal (row (sts t.vars) i) = true → D i = 0
def EdC (t : Tsk) (D : Nat → Int) (e : Nat × Nat × Nat) : Prop := D e.2.2 < INF → D e.1 ≤ D e.2.2 + (opr t.ops e.2.1).cost
/-- The first k places as they are to be. -/
def dsN (t : Tsk) (k : Nat) (v : Nat) : Int := if v < k then (if hoB t.goal (row (sts t.vars) v) then 0 else INF) else 0
section
variable {t : Tsk} {D : Nat → Int}
theorem dst_start : Dst t (dsN t (sts t.vars).length) where
 rng := fun i hi => by unfold dsN; rw [if_pos hi]; split <;> unfold INF <;> omega
 real := fun i hi => by
  unfold dsN; rw [if_pos hi]
  split
  ·exact .inr (PlanC.goal (by assumption))
  ·exact .inl rfl
 goal := fun i hi h => by unfold dsN; rw [if_pos hi, if_pos h]
theorem egd_facts (hr : Right t) {e : Nat × Nat × Nat} (he : e ∈ edges t) : e.1 < (sts t.vars).length ∧ e.2.1 < t.ops.length ∧ e.2.2 < (sts t.vars).length ∧ hoB (opr t.ops e.2.1).pre (row (sts t.vars) e.1) = true ∧ row (sts t.vars) e.2.2 = nxt t (row (sts t.vars) e.1) e.2.1 := by
 obtain ⟨h1, h2, h3, h4⟩ := mem_edges.1 he
 have hst := st_nxt' hr (sts_st hr h1) h2
 refine ⟨h1, h2, ?_, h3, ?_⟩
 ·rw [h4]; exact (num_eq hr hst).2
 ·rw [h4]; exact sts_num hr hst
theorem dst_mark (hr : Right t) (h : Dst t D) {e : Nat × Nat × Nat} (he : e ∈ edges t) (h1 : D e.2.2 < INF) (h2 : D e.2.2 + (opr t.ops e.2.1).cost < D e.1) : Dst t (setD D e.1 (D e.2.2 + (opr t.ops e.2.1).cost)) := by
 obtain ⟨a1, a2, a3, a4, a5⟩ := egd_facts hr he
 have hc := hr.cost _ a2
 have r1 := h.rng _ a3
 have r2 := h.rng _ a1
 refine ⟨fun i hi => ?_, fun i hi => ?_, fun i hi hg => ?_⟩
 ·unfold setD
  split
  ·exact ⟨by omega, by omega⟩
  ·exact h.rng i hi
 ·unfold setD
  split
  ·rename_i e; subst e
   rcases h.real _ a3 with e | e
   ·omega
   ·rw [a5] at e
    have := PlanC.step a2 a4 e
    rw [Int.add_comm] at this
    exact .inr this
  ·exact h.real i hi
 ·unfold setD
  split
  ·rename_i e; subst e
   have := h.goal _ hi hg
   omega
  ·exact h.goal i hi hg
theorem dst_best (hr : Right t) (h : Dst t D) (hc : ∀ e ∈ edges t, EdC t D e) {s : List Int} (hs : stB t.vars s = true) : IsBest t s (D (num t s)) := by
 have key : ∀ s c, PlanC t s c → stB t.vars s = true → D (num t s) ≤ c := by
  intro s c hp
  induction hp with
  | @goal s hg =>
   intro hs
   have := h.goal _ (num_eq hr hs).2 (by rw [sts_num hr hs]; exact hg)
   omega
  | @step s k c hk hpre _ ih =>
   intro hs
   have hs2 := st_nxt' hr hs hk
   have h1 := ih hs2
   have hm : (num t s, k, num t (nxt t s k)) ∈ edges t := mem_edges.2 ⟨(num_eq hr hs).2, hk, by dsimp only; rw [sts_num hr hs]; exact hpre, by dsimp only; rw [sts_num hr hs]⟩
   have h2 := hc _ hm
   unfold EdC at h2
   dsimp only at h2
   have r1 := h.rng _ (num_eq hr hs).2
   have r2 := h.rng _ (num_eq hr hs2).2
   have hcst := hr.cost _ hk
   by_cases e : D (num t (nxt t s k)) < INF
   ·have := h2 e; omega
   ·omega
 have hn := num_eq hr hs
 refine ⟨(h.rng _ hn.2).1, (h.rng _ hn.2).2, ?_, fun c hp => key s c hp hs⟩
 have := h.real _ hn.2
 rwa [sts_num hr hs] at this
end
end

section
open Go.RowKit
set_option linter.unusedVariables false

structure Nog where
 facts : List Fct
 dist : Int
/-- Which step counts, and within which distance. -/
def Cnt (b d c : Int) : Prop := b < 0 ∨ d + c < b
def dsX (b d c : Int) : Int := if b < 0 then 0 else d + c
structure CertOk (t : Tsk) (b : Int) (Ns : List Nog) : Prop where
 ninit : ∀ n ∈ Ns, hoB n.facts t.init = false
 goal : b ≠ 0 → ∀ s, stB t.vars s = true → hoB t.goal s = true → ∃ n ∈ Ns, n.dist ≤ 0 ∧ hoB n.facts s = true
 step : ∀ n ∈ Ns, ∀ k, k < t.ops.length → Cnt b n.dist (opr t.ops k).cost → ∀ s, stB t.vars s = true → hoB (opr t.ops k).pre s = true → hoB n.facts (nxt t s k) = true →
  ∃ m ∈ Ns, m.dist ≤ dsX b n.dist (opr t.ops k).cost ∧ hoB m.facts s = true
theorem plan_nn {t : Tsk} (hr : Right t) {s : List Int} {c : Int} (h : PlanC t s c) : 0 ≤ c := by
 induction h with
 | goal _ => omega
 | step hk _ _ ih => have := (hr.cost _ hk).1; omega
theorem cert_plan {t : Tsk} {b : Int} {Ns : List Nog} (hr : Right t) (h : CertOk t b Ns) {s : List Int} {c : Int} (hp : PlanC t s c) :
  stB t.vars s = true → (b < 0 ∨ c < b) → ∃ n ∈ Ns, hoB n.facts s = true ∧ (b < 0 ∨ n.dist ≤ c) := by
 induction hp with
 | goal hg =>
  intro hs hb
  obtain ⟨n, hn, h1, h2⟩ := h.goal (by omega) _ hs hg
  exact ⟨n, hn, h2, .inr h1⟩
 | @step s k c hk hpre hp ih =>
  intro hs hb
  have hc := hr.cost k hk
  obtain ⟨n, hn, h1, h2⟩ := ih (st_nxt' hr hs hk) (by omega)
  obtain ⟨m, hm, h3, h4⟩ := h.step n hn k hk (by unfold Cnt; omega) s hs hpre h1
  refine ⟨m, hm, h4, ?_⟩
  unfold dsX at h3
  split at h3 <;> omega
theorem cert_sound {t : Tsk} {b : Int} {Ns : List Nog} (hr : Right t) (h : CertOk t b Ns) {c : Int} (hp : PlanC t t.init c) : 0 ≤ b ∧ b ≤ c := by
 refine Classical.byContradiction fun hn => ?_
 obtain ⟨n, hn, h1, _⟩ := cert_plan hr h hp hr.init (by omega)
 rw [h.ninit n hn] at h1; cases h1
theorem cert_best {t : Tsk} {b d : Int} {Ns : List Nog} (hr : Right t) (h : CertOk t b Ns) (hd : IsBest t t.init d) (hb : b ≤ INF) : (b < 0 ∧ d = INF) ∨ (0 ≤ b ∧ b ≤ d) := by
 rcases hd.real with e | e
 ·by_cases h0 : b < 0
  ·exact .inl ⟨h0, e⟩
  ·exact .inr ⟨by omega, by omega⟩
 ·exact .inr (cert_sound hr h e)
/-- The operators of a right task are right. -/
theorem op_ok {t : Tsk} (hr : Right t) {k : Nat} (hk : k < t.ops.length) : OpOk t.vars (opr t.ops k) where
 pre := hr.pre k hk
 effs := fun e he => by
  obtain ⟨j, hj, rfl⟩ := mem_eff he
  exact ⟨hr.whn k hk j hj, (hr.eff k hk j hj).1, (hr.eff k hk j hj).2.1⟩
/-- The same of the lists of the regressions. -/
structure SynOk (t : Tsk) (b : Int) (Ns : List Nog) : Prop where
 fa : ∀ n ∈ Ns, faB t.vars n.facts = true
 ninit : ∀ n ∈ Ns, hoB n.facts t.init = false
 goal : b ≠ 0 → ∃ n ∈ Ns, n.dist ≤ 0 ∧ Sub n.facts t.goal
 step : ∀ n ∈ Ns, ∀ k, k < t.ops.length → Cnt b n.dist (opr t.ops k).cost → ∀ z, RegS t.vars (opr t.ops k) n.facts z → ∃ m ∈ Ns, m.dist ≤ dsX b n.dist (opr t.ops k).cost ∧ Sub m.facts z
theorem syn_cert {t : Tsk} {b : Int} {Ns : List Nog} (hr : Right t) (h : SynOk t b Ns) : CertOk t b Ns where
 ninit := h.ninit
 goal := fun hb s hs hg => by
  obtain ⟨n, hn, h1, h2⟩ := h.goal hb
  exact ⟨n, hn, h1, ho_sub hg h2⟩
 step := fun n hn k hk hc s hs hpre hn2 => by
  obtain ⟨z, hz, hzs⟩ := (has_reg (op_ok hr hk) (h.fa n hn) hs).2 ⟨hpre, hn2⟩
  obtain ⟨m, hm, h1, h2⟩ := h.step n hn k hk hc z hz
  exact ⟨m, hm, h1, ho_sub hzs h2⟩

/-- A table of pairs that are reached: what is not open of it. -/
def HoldR (R : Fct → Fct → Bool) (z : List Fct) : Prop := ∀ x ∈ z, ∀ y ∈ z, R x y = true
def IsF (vars : List Int) (x : Fct) : Prop := 0 ≤ x.1 ∧ x.1 < (vars.length : Int) ∧ 0 ≤ x.2 ∧ x.2 < nth vars x.1.toNat
def OpenS (vars : List Int) (R : Fct → Fct → Bool) (p : List Fct) : Prop :=
 (∃ a, p = [a] ∧ IsF vars a ∧ R a a = false) ∨ ∃ a b, p = [a, b] ∧ IsF vars a ∧ IsF vars b ∧ a.1 < b.1 ∧ R a a = true ∧ R b b = true ∧ R a b = false
def Touch (o : Opr) (p : List Fct) : Prop := ∃ e ∈ o.effs, ∃ f ∈ p, f.1 = e.var
structure MutOk (t : Tsk) (R : Fct → Fct → Bool) : Prop where
 sym : ∀ a b, IsF t.vars a → IsF t.vars b → R a b = R b a
 init : ∀ a b : Fct, IsF t.vars a → IsF t.vars b → nth t.init a.1.toNat = a.2 → nth t.init b.1.toNat = b.2 → R a b = true
 step : ∀ p, OpenS t.vars R p → ∀ k, k < t.ops.length → Touch (opr t.ops k) p → ∀ z, RegS t.vars (opr t.ops k) p z → ¬ HoldR R z
section
variable {t : Tsk} {R : Fct → Fct → Bool}
theorem open_fa {vars : List Int} {p : List Fct} (h : OpenS vars R p) : faB vars p = true := by
 rcases h with ⟨a, rfl, ha, _⟩ | ⟨a, b, rfl, ha, hb, hlt, _⟩
 ·exact fa_iff.2 ⟨asc_one _, fun x hx => by simp at hx; subst hx; exact ha⟩
 ·refine fa_iff.2 ⟨?_, fun x hx => ?_⟩
  ·unfold Asc; simp [hlt]
  ·simp at hx; rcases hx with rfl | rfl
   ·exact ha
   ·exact hb
/-- What does not hold contains an open set. -/
theorem open_of {vars : List Int} (hsym : ∀ a b, IsF vars a → IsF vars b → R a b = R b a) {z : List Fct} (hz : faB vars z = true) (h : ¬ HoldR R z) : ∃ p, OpenS vars R p ∧ Sub p z := by
 have hi := fa_inv hz
 by_cases h1 : ∃ a ∈ z, R a a = false
 ·obtain ⟨a, ha, h1⟩ := h1
  exact ⟨[a], .inl ⟨a, rfl, hi a ha, h1⟩, fun x hx => by simp at hx; subst hx; exact ha⟩
 ·have h2 : ∀ a ∈ z, R a a = true := fun a ha => by
   cases e : R a a
   ·exact absurd ⟨a, ha, e⟩ h1
   ·rfl
  have : ∃ a ∈ z, ∃ b ∈ z, R a b = false := by
   refine Classical.byContradiction fun hn => h fun x hx y hy => ?_
   cases e : R x y
   ·exact absurd ⟨x, hx, y, hy, e⟩ hn
   ·rfl
  obtain ⟨a, ha, b, hb, e⟩ := this
  have hne : a.1 ≠ b.1 := fun e2 => by
   have := asc_uni (fa_asc hz) ha hb e2
   subst this
   rw [h2 a ha] at e; cases e
  by_cases hlt : a.1 < b.1
  ·exact ⟨[a, b], .inr ⟨a, b, rfl, hi a ha, hi b hb, hlt, h2 a ha, h2 b hb, e⟩, fun x hx => by simp at hx; rcases hx with rfl | rfl <;> assumption⟩
  ·exact ⟨[b, a], .inr ⟨b, a, rfl, hi b hb, hi a ha, by omega, h2 b hb, h2 a ha, by rw [hsym b a (hi b hb) (hi a ha)]; exact e⟩, fun x hx => by simp at hx; rcases hx with rfl | rfl <;> assumption⟩
/-- All pairs of a state's facts are reached. -/
def InvS (t : Tsk) (R : Fct → Fct → Bool) (s : List Int) : Prop := stB t.vars s = true ∧ ∀ z, faB t.vars z = true → hoB z s = true → HoldR R z
theorem inv_init (hr : Right t) (h : MutOk t R) : InvS t R t.init :=
 ⟨hr.init, fun z hz hs x hx y hy => h.init x y (fa_inv hz x hx) (fa_inv hz y hy) (ho_iff.1 hs x hx).2.2 (ho_iff.1 hs y hy).2.2⟩
theorem no_open {s : List Int} (h : InvS t R s) {p : List Fct} (hp : OpenS t.vars R p) : hoB p s = false := by
 cases e : hoB p s
 ·rfl
 ·have := h.2 p (open_fa hp) e
  rcases hp with ⟨a, rfl, ha, h1⟩ | ⟨a, b, rfl, ha, hb, hlt, h1, h2, h3⟩
  ·rw [this a (by simp) a (by simp)] at h1; cases h1
  ·rw [this a (by simp) b (by simp)] at h3; cases h3
theorem inv_step (hr : Right t) (h : MutOk t R) {s : List Int} (hs : InvS t R s) {k : Nat} (hk : k < t.ops.length) (hp : hoB (opr t.ops k).pre s = true) : InvS t R (nxt t s k) := by
 have hst := st_nxt' hr hs.1 hk
 refine ⟨hst, fun z hz hzs => Classical.byContradiction fun hn => ?_⟩
 obtain ⟨p, hop, hsub⟩ := open_of h.sym hz hn
 have hps := ho_sub hzs hsub
 have hfa := open_fa hop
 by_cases ht : Touch (opr t.ops k) p
 ·obtain ⟨y, hy, hys⟩ := (has_reg (op_ok hr hk) hfa hs.1).2 ⟨hp, hps⟩
  exact h.step p hop k hk ht y hy (hs.2 y (RegS.fa (op_ok hr hk) hfa y hy) hys)
 ·obtain ⟨y, hy, hys⟩ := (has_reg (op_ok hr hk) hfa hs.1).2 ⟨hp, hps⟩
  have := no_open hs hop
  rw [ho_sub hys (RegS.keep (fun f hf e he e2 => ht ⟨e, he, f, hf, e2.symm⟩) hy)] at this
  cases this
/-- The task without the operators whose precondition does not hold. -/
def prnT (t : Tsk) (H : List Fct → Bool) : Tsk := { t with ops := t.ops.filter fun o => H o.pre }
theorem mem_prn {H : List Fct → Bool} {o : Opr} : o ∈ (prnT t H).ops ↔ o ∈ t.ops ∧ H o.pre = true := by unfold prnT; simp [List.mem_filter]
theorem nxt_eq {t u : Tsk} {i j : Nat} (h : opr t.ops i = opr u.ops j) (s : List Int) : nxt t s i = nxt u s j := by unfold nxt; rw [h]
theorem prn_right (hr : Right t) {H : List Fct → Bool} : Right (prnT t H) := by
 have key : ∀ k, k < (prnT t H).ops.length → ∃ j, j < t.ops.length ∧ opr (prnT t H).ops k = opr t.ops j := fun k hk => by
  obtain ⟨j, hj, e⟩ := mem_opr (mem_prn.1 (opr_mem hk)).1
  exact ⟨j, hj, e⟩
 have hle : (prnT t H).ops.length ≤ t.ops.length := List.length_filter_le _ _
 constructor
 ·exact hr.nv
 ·have := hr.no; omega
 ·exact hr.ng
 ·exact hr.dom
 ·exact hr.init
 ·exact hr.goal
 ·intro k hk; obtain ⟨j, hj, e⟩ := key k hk; rw [e]; exact hr.np j hj
 ·intro k hk; obtain ⟨j, hj, e⟩ := key k hk; rw [e]; exact hr.ne j hj
 ·intro k hk; obtain ⟨j, hj, e⟩ := key k hk; rw [e]; exact hr.nw j hj
 ·intro k hk; obtain ⟨j, hj, e⟩ := key k hk; rw [e]; exact hr.cost j hj
 ·intro k hk; obtain ⟨j, hj, e⟩ := key k hk; rw [e]; exact hr.pre j hj
 ·intro k hk; obtain ⟨j, hj, e⟩ := key k hk; rw [e]; exact hr.whn j hj
 ·intro k hk; obtain ⟨j, hj, e⟩ := key k hk; rw [e]; exact hr.eff j hj
theorem prn_up {H : List Fct → Bool} {s : List Int} {c : Int} (h : PlanC (prnT t H) s c) : PlanC t s c := by
 induction h with
 | goal hg => exact PlanC.goal hg
 | @step s k c hk hp _ ih =>
  obtain ⟨j, hj, e⟩ := mem_opr (mem_prn.1 (opr_mem hk)).1
  rw [nxt_eq e] at ih
  rw [e] at hp ⊢
  exact PlanC.step hj hp ih
theorem prn_down (hr : Right t) (hm : MutOk t R) {H : List Fct → Bool} (hH : ∀ z, faB t.vars z = true → (H z = true ↔ HoldR R z)) {s : List Int} {c : Int} (h : PlanC t s c) : InvS t R s → PlanC (prnT t H) s c := by
 induction h with
 | goal hg => intro _; exact PlanC.goal hg
 | @step s k c hk hp _ ih =>
  intro hs
  have h1 := ih (inv_step hr hm hs hk hp)
  have hin : opr t.ops k ∈ (prnT t H).ops := mem_prn.2 ⟨opr_mem hk, (hH _ (hr.pre k hk)).2 (hs.2 _ (hr.pre k hk) hp)⟩
  obtain ⟨j, hj, e⟩ := mem_opr hin
  rw [nxt_eq e] at h1
  rw [e] at hp ⊢
  exact PlanC.step hj hp h1
theorem prn_best (hr : Right t) (hm : MutOk t R) {H : List Fct → Bool} (hH : ∀ z, faB t.vars z = true → (H z = true ↔ HoldR R z)) {d d' : Int} (h : IsBest t t.init d) (h' : IsBest (prnT t H) (prnT t H).init d') : d' = d := by
 have a := best_le h h' fun c hc => ⟨c, Int.le_refl _, prn_down hr hm hH hc (inv_init hr hm)⟩
 have b := best_le h' h fun c hc => ⟨c, Int.le_refl _, prn_up hc⟩
 omega
/-- The mutexes can be added. -/
theorem syn_add {b : Int} {Ns : List Nog} {Ms : List (List Fct)} (hr : Right t) (hm : MutOk t R) (hM : ∀ p, p ∈ Ms ↔ OpenS t.vars R p) (h : SynOk t b Ns) : SynOk t b (Ns ++ Ms.map fun p => ⟨p, 0⟩) := by
 have hin : ∀ {p}, OpenS t.vars R p → (⟨p, 0⟩ : Nog) ∈ Ns ++ Ms.map fun p => ⟨p, 0⟩ := fun {p} hp => List.mem_append.2 (.inr (List.mem_map.2 ⟨p, (hM p).2 hp, rfl⟩))
 constructor
 ·intro n hn
  rcases List.mem_append.1 hn with hn | hn
  ·exact h.fa n hn
  ·obtain ⟨p, hp, rfl⟩ := List.mem_map.1 hn
   exact open_fa ((hM p).1 hp)
 ·intro n hn
  rcases List.mem_append.1 hn with hn | hn
  ·exact h.ninit n hn
  ·obtain ⟨p, hp, rfl⟩ := List.mem_map.1 hn
   exact no_open (inv_init hr hm) ((hM p).1 hp)
 ·intro hb
  obtain ⟨n, hn, h1⟩ := h.goal hb
  exact ⟨n, List.mem_append.2 (.inl hn), h1⟩
 ·intro n hn k hk hc z hz
  rcases List.mem_append.1 hn with hn | hn
  ·obtain ⟨m, hm, h1⟩ := h.step n hn k hk hc z hz
   exact ⟨m, List.mem_append.2 (.inl hm), h1⟩
  ·obtain ⟨p, hp, rfl⟩ := List.mem_map.1 hn
   have hop := (hM p).1 hp
   have hd : (0 : Int) ≤ dsX b 0 (opr t.ops k).cost := by have := hr.cost k hk; unfold dsX; split <;> omega
   by_cases ht : Touch (opr t.ops k) p
   ·obtain ⟨q, hq, hs⟩ := open_of hm.sym (RegS.fa (op_ok hr hk) (open_fa hop) z hz) (hm.step p hop k hk ht z hz)
    exact ⟨_, hin hq, hd, hs⟩
   ·exact ⟨_, hin hop, hd, RegS.keep (fun f hf e he e2 => ht ⟨e, he, f, hf, e2.symm⟩) hz⟩
/-- A certificate of the pruned task, with the mutexes, is one of the task. -/
theorem syn_prn {b : Int} {Ns : List Nog} {Ms : List (List Fct)} (hr : Right t) (hm : MutOk t R) (hM : ∀ p, p ∈ Ms ↔ OpenS t.vars R p) {H : List Fct → Bool} (hH : ∀ z, faB t.vars z = true → (H z = true ↔ HoldR R z)) (hd : ∀ n ∈ Ns, 0 ≤ n.dist)
  (h : SynOk (prnT t H) b Ns) : SynOk t b (Ns ++ Ms.map fun p => ⟨p, 0⟩) := by
 have hin : ∀ {p}, OpenS t.vars R p → (⟨p, 0⟩ : Nog) ∈ Ns ++ Ms.map fun p => ⟨p, 0⟩ := fun {p} hp => List.mem_append.2 (.inr (List.mem_map.2 ⟨p, (hM p).2 hp, rfl⟩))
 constructor
 ·intro n hn
  rcases List.mem_append.1 hn with hn | hn
  ·exact h.fa n hn
  ·obtain ⟨p, hp, rfl⟩ := List.mem_map.1 hn
   exact open_fa ((hM p).1 hp)
 ·intro n hn
  rcases List.mem_append.1 hn with hn | hn
  ·exact h.ninit n hn
  ·obtain ⟨p, hp, rfl⟩ := List.mem_map.1 hn
   exact no_open (inv_init hr hm) ((hM p).1 hp)
 ·intro hb
  obtain ⟨n, hn, h1⟩ := h.goal hb
  exact ⟨n, List.mem_append.2 (.inl hn), h1⟩
 ·intro n hn k hk hc z hz
  have hfa : faB t.vars n.facts = true := by
   rcases List.mem_append.1 hn with hn | hn
   ·exact h.fa n hn
   ·obtain ⟨p, hp, rfl⟩ := List.mem_map.1 hn
    exact open_fa ((hM p).1 hp)
  have hd0 : 0 ≤ n.dist := by
   rcases List.mem_append.1 hn with hn | hn
   ·exact hd n hn
   ·obtain ⟨p, hp, rfl⟩ := List.mem_map.1 hn
    exact Int.le_refl _
  have hdx : (0 : Int) ≤ dsX b n.dist (opr t.ops k).cost := by have := hr.cost k hk; unfold dsX; split <;> omega
  by_cases hk2 : H (opr t.ops k).pre = true
  ·rcases List.mem_append.1 hn with hn | hn
   ·obtain ⟨j, hj, e⟩ := mem_opr (mem_prn.2 ⟨opr_mem hk, hk2⟩)
    obtain ⟨m, hm, h1⟩ := h.step n hn j hj (by rw [← e]; exact hc) z (by rw [← e]; exact hz)
    rw [← e] at h1
    exact ⟨m, List.mem_append.2 (.inl hm), h1⟩
   ·obtain ⟨p, hp, rfl⟩ := List.mem_map.1 hn
    have hop := (hM p).1 hp
    by_cases ht : Touch (opr t.ops k) p
    ·obtain ⟨q, hq, hs⟩ := open_of hm.sym (RegS.fa (op_ok hr hk) (open_fa hop) z hz) (hm.step p hop k hk ht z hz)
     exact ⟨_, hin hq, hdx, hs⟩
    ·exact ⟨_, hin hop, hdx, RegS.keep (fun f hf e he e2 => ht ⟨e, he, f, hf, e2.symm⟩) hz⟩
  ·have hnh : ¬ HoldR R (opr t.ops k).pre := fun hh => hk2 ((hH _ (hr.pre k hk)).2 hh)
   obtain ⟨q, hq, hs⟩ := open_of hm.sym (hr.pre k hk) hnh
   exact ⟨_, hin hq, hdx, fun f hf => RegS.pre hz f (hs f hf)⟩
end
end

end Go.Proofs.YtlkebhiaimijiaaGreatDoor

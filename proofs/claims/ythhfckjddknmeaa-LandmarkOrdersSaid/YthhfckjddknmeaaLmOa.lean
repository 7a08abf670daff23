/- landmark: Orders. -/
import Derived.Test.YthhfckjddknmeaaLmY
import Derived.Test.YthhfckjddknmeaaLmE
namespace Go.Proofs.Ythhfckjddknmeaa
set_option linter.unusedSimpArgs false
set_option linter.unusedVariables false
open Go Go.RowKit
set_option linter.unusedVariables false

theorem hs_one1 {M : Nat → Nat → Bool} {b : Int × Int} : hsM [b] M = M b.1.toNat b.2.toNat := by
  rw [Bool.eq_iff_iff, hsM_iff]
  constructor
  · intro h; exact h 0 (by simp)
  · intro h i hi
    have : i = 0 := by simp at hi; omega
    subst this; exact h
/-- Does the landmark a come before b? -/
noncomputable def ordB (t : Tsk) (s : List Int) (a b : Int × Int) : Bool := decide (a ≠ b) && !rcB t s a b.1.toNat b.2.toNat
noncomputable def orR (t : Tsk) (s : List Int) (F : List (Int × Int)) (a : Int × Int) (j : Nat) : List ((Int × Int) × (Int × Int)) := ((F.take j).filter (ordB t s a)).map fun b => (a, b)
noncomputable def orN (t : Tsk) (s : List Int) (F : List (Int × Int)) (k : Nat) : List ((Int × Int) × (Int × Int)) := (List.range k).flatMap fun i => orR t s F (fac F i) F.length
noncomputable def orK (t : Tsk) (s : List Int) (F : List (Int × Int)) (k j : Nat) : List ((Int × Int) × (Int × Int)) := orN t s F k ++ orR t s F (fac F k) j
noncomputable def orL (t : Tsk) (s : List Int) (F : List (Int × Int)) : List ((Int × Int) × (Int × Int)) := orN t s F F.length
def pa (l : List ((Int × Int) × (Int × Int))) (k : Nat) : (Int × Int) × (Int × Int) := l.getD k ((0, 0), (0, 0))
section
variable {t : Tsk} {s : List Int} {F : List (Int × Int)}
theorem orN_succ (k : Nat) : orN t s F (k + 1) = orN t s F k ++ orR t s F (fac F k) F.length := by unfold orN; rw [List.range_succ, List.flatMap_append]; simp
theorem orK_zero (k : Nat) : orK t s F k 0 = orN t s F k := by unfold orK orR; simp
theorem orK_end (k : Nat) : orK t s F k F.length = orN t s F (k + 1) := (orN_succ k).symm
theorem orK_yes {k j : Nat} (hj : j < F.length) (h : ordB t s (fac F k) (fac F j) = true) : orK t s F k (j + 1) = orK t s F k j ++ [(fac F k, fac F j)] := by
  unfold orK orR
  rw [List.append_assoc, ← List.take_append_getElem hj, List.filter_append, fac_eq hj]
  simp [h]
theorem orK_no {k j : Nat} (hj : j < F.length) (h : ordB t s (fac F k) (fac F j) = false) : orK t s F k (j + 1) = orK t s F k j := by
  unfold orK orR
  rw [← List.take_append_getElem hj, List.filter_append, fac_eq hj]
  simp [h]
theorem orR_len (a : Int × Int) (j : Nat) : (orR t s F a j).length ≤ F.length := by
  unfold orR
  rw [List.length_map]
  have h1 := List.length_filter_le (ordB t s a) (F.take j)
  have h2 := List.length_take_le' j F
  omega
theorem orN_len : ∀ k, (orN t s F k).length ≤ k * F.length
  | 0 => Nat.zero_le _
  | k + 1 => by
    rw [orN_succ, List.length_append, Nat.succ_mul]
    have h1 := orN_len k
    have h2 := orR_len (t := t) (s := s) (F := F) (fac F k) F.length
    omega
theorem orK_len (k j : Nat) : (orK t s F k j).length ≤ (k + 1) * F.length := by
  unfold orK
  rw [List.length_append, Nat.succ_mul]
  have h1 := orN_len (t := t) (s := s) (F := F) k
  have h2 := orR_len (t := t) (s := s) (F := F) (fac F k) j
  omega
theorem orN_pre (k : Nat) : ∀ m, orN t s F k <+: orN t s F (k + m)
  | 0 => List.prefix_refl _
  | m + 1 => (orN_pre k m).trans (by rw [← Nat.add_assoc, orN_succ]; exact List.prefix_append _ _)
theorem orK_pre {k j : Nat} (hk : k < F.length) (hj : j ≤ F.length) : orK t s F k j <+: orL t s F := by
  have h1 : orK t s F k j <+: orN t s F (k + 1) := by
    rw [← orK_end]
    unfold orK orR
    refine (List.prefix_append_right_inj _).2 ?_
    refine List.IsPrefix.map _ (List.IsPrefix.filter _ ?_)
    rw [List.take_length]
    exact List.take_prefix _ _
  have h2 := orN_pre (t := t) (s := s) (F := F) (k + 1) (F.length - (k + 1))
  rw [show k + 1 + (F.length - (k + 1)) = F.length by omega] at h2
  exact h1.trans h2
theorem orK_at {k j : Nat} (hk : k < F.length) (hj : j < F.length) (h : ordB t s (fac F k) (fac F j) = true) : (orK t s F k j).length < (orL t s F).length ∧ pa (orL t s F) (orK t s F k j).length = (fac F k, fac F j) := by
  have h1 := orK_pre (t := t) (s := s) hk (show j + 1 ≤ F.length by omega)
  rw [orK_yes hj h] at h1
  obtain ⟨r, hr⟩ := h1
  constructor
  · rw [← hr]; simp
  · rw [← hr]; unfold pa; simp [List.getD]
/-- A landmark is reached. -/
theorem rch_no {f : Int × Int} (hf : rcB t s noF f.1.toNat f.2.toNat = false) {v x : Nat} (h : Rch t s noF v x) : Rch t s f v x := by
  induction h with
  | start hv => exact Rch.start hv
  | @step k j hk hj hne hp hw ih1 ih2 =>
    by_cases e : efF t k j = f
    · have : Rch t s noF f.1.toNat f.2.toNat := e ▸ Rch.step hk hj hne hp hw
      rw [rcB_iff.2 this] at hf; cases hf
    · exact Rch.step hk hj e ih1 ih2
theorem lm_rch {f : Int × Int} (hg : hsM t.goal (rcB t s noF) = true) (hf : hsM t.goal (rcB t s f) = false) : rcB t s noF f.1.toNat f.2.toNat = true := by
  cases e : rcB t s noF f.1.toNat f.2.toNat
  · have : hsM t.goal (rcB t s f) = true := hsM_iff.2 fun i hi => rcB_iff.2 (rch_no e (rcB_iff.1 (hsM_iff.1 hg i hi)))
    rw [this] at hf; cases hf
  · rfl
end

/-- Pairs of facts as cells. -/
def pcl (l : List ((Int × Int) × (Int × Int))) : List Value := l.flatMap fun p => [.int .i64 p.1.1, .int .i64 p.1.2, .int .i64 p.2.1, .int .i64 p.2.2]
theorem pcl_app (a b : List ((Int × Int) × (Int × Int))) : pcl (a ++ b) = pcl a ++ pcl b := by unfold pcl; rw [List.flatMap_append]
theorem pcl_get : ∀ (l : List ((Int × Int) × (Int × Int))) (k : Nat), k < l.length → (pcl l)[k * 4]? = some (.int .i64 (pa l k).1.1) ∧ (pcl l)[k * 4 + 1]? = some (.int .i64 (pa l k).1.2) ∧ (pcl l)[k * 4 + 2]? = some (.int .i64 (pa l k).2.1) ∧ (pcl l)[k * 4 + 3]? = some (.int .i64 (pa l k).2.2)
  | f :: l, 0, _ => ⟨rfl, rfl, rfl, rfl⟩
  | f :: l, k + 1, h => by
    have ih := pcl_get l k (by simp at h; omega)
    have e : pcl (f :: l) = .int .i64 f.1.1 :: .int .i64 f.1.2 :: .int .i64 f.2.1 :: .int .i64 f.2.2 :: pcl l := rfl
    have e2 : pa (f :: l) (k + 1) = pa l k := by unfold pa; simp [List.getD]
    rw [e, e2, show (k + 1) * 4 = k * 4 + 1 + 1 + 1 + 1 by omega]
    simpa using ih
/-- Pairs of facts that lie at the beginning of a block. -/
def PairsAt (w : World) (A : Option Addr) (l : List ((Int × Int) × (Int × Int))) : Prop := l.length ≤ 1000000 ∧ (0 < l.length → ∃ b, A = some ⟨b, 0, none⟩ ∧ b < w.heap.size ∧ ∀ k, k < l.length → w.cell? ⟨b, k * 4, none⟩ = some (.int .i64 (pa l k).1.1) ∧ w.cell? ⟨b, k * 4 + 1, none⟩ = some (.int .i64 (pa l k).1.2) ∧ w.cell? ⟨b, k * 4 + 2, none⟩ = some (.int .i64 (pa l k).2.1) ∧ w.cell? ⟨b, k * 4 + 3, none⟩ = some (.int .i64 (pa l k).2.2))
theorem PairsAt.up {w w' : World} {A : Option Addr} {l : List ((Int × Int) × (Int × Int))} (h : PairsAt w A l) (hb : Below w.heap.size w w') : PairsAt w' A l := ⟨h.1, fun h0 => by
  obtain ⟨b, e, hlt, hc⟩ := h.2 h0
  refine ⟨b, e, Nat.lt_of_lt_of_le hlt hb.size, fun k hk => ?_⟩
  obtain ⟨h1, h2, h3, h4⟩ := hc k hk
  exact ⟨(hb.cell (p := ⟨b, _, none⟩) hlt).trans h1, (hb.cell (p := ⟨b, _, none⟩) hlt).trans h2, (hb.cell (p := ⟨b, _, none⟩) hlt).trans h3, (hb.cell (p := ⟨b, _, none⟩) hlt).trans h4⟩⟩
theorem pairs_own {w : World} {B : Nat} {v : Value} {l : List ((Int × Int) × (Int × Int))} (h : w.ownsRow B 29 4 v l.length (pcl l)) (hl : l.length ≤ 1000000) : ∃ S c, v = .slice S l.length c ∧ PairsAt w S l := by
  rcases h.2 with ⟨rfl, h0⟩ | ⟨g, cap, cur, rfl, hb, hg, hnc, hcm, hcs, htk⟩
  · exact ⟨none, 0, by rw [h0], hl, fun hp => absurd hp (by omega)⟩
  · refine ⟨_, cap, rfl, hl, fun _ => ⟨g, rfl, (Array.getElem?_eq_some_iff.1 hg).1, fun k hk => ?_⟩⟩
    obtain ⟨h1, h2, h3, h4⟩ := pcl_get l k hk
    have hc : ∀ (i : Nat) (u : Value), i < l.length * 4 → (pcl l)[i]? = some u → w.cell? ⟨g, i, none⟩ = some u := fun i u hi h => by
      rw [← htk, List.getElem?_take, if_pos hi] at h
      have := cell_of_row w g i cur 29 (0, 0) hg
      rw [show cur[i]? = some u by simpa using h] at this
      simpa using this
    exact ⟨hc _ _ (by omega) h1, hc _ _ (by omega) h2, hc _ _ (by omega) h3, hc _ _ (by omega) h4⟩
theorem infoP2 : (Try.prog.info? 29).map (fun i => (i.zero, i.size, i.bytes)) = some (some (.agg #[.int .i64 0, .int .i64 0, .int .i64 0, .int .i64 0]), 4, 32) := by kernel_rfl
theorem undP2 : Try.prog.underlying 46 = some (.slice 29) := by kernel_rfl
/-- The row's block lies outside X .. Y. -/
def OwnOut (v : Value) (X Y : Nat) : Prop := ∀ g, v.ownBlock = some g → g < X ∨ Y ≤ g
theorem OwnOut.ne {v : Value} {X Y g : Nat} (h : OwnOut v X Y) (h0 : X ≤ g) (h1 : g < Y) : some g ≠ v.ownBlock := fun e => by
  rcases h g e.symm with h | h <;> omega
theorem OwnOut.push {v v' : Value} {X Y n : Nat} (h : OwnOut v X Y) (hat : v'.ownBlock = v.ownBlock ∨ v'.ownBlock = some n) (hn : Y ≤ n) : OwnOut v' X Y := fun g e => by
  rcases hat with h1 | h1
  · exact h g (h1 ▸ e)
  · rw [h1] at e; cases e; exact .inr hn
theorem OwnOut.start {w : World} {B s n X Y : Nat} {e : TypeId} {v : Value} {xs : List Value} (h : w.ownsRow B e s v n xs) (hX : w.heap.size ≤ X) : OwnOut v X Y := fun g hg => .inl (Nat.lt_of_lt_of_le (h.lt g hg).2 hX)
def GotPs (w : World) (v : Value) (l : List ((Int × Int) × (Int × Int))) : Prop := ∃ A c, v = .slice A l.length c ∧ PairsAt w A l
def OrdRet (t : Tsk) (s : List Int) (e : Ending) (w' : World) : Prop := ∃ v, e = .returned (.tuple #[v, erV (lmC t s)]) ∧ GotPs w' v (orL t s (lmL t s))

theorem lm_count {t : Tsk} (hS : Smll t) : (alF t.vars).length ≤ 768 := by
  have h := alN_len hS.right.dom t.vars.length (Nat.le_refl _)
  have := hS.nv
  show (alN _ _).length ≤ _
  omega
theorem lmL_len {t : Tsk} {s : List Int} (hS : Smll t) : (lmL t s).length ≤ 768 := by
  unfold lmL
  split
  · exact Nat.le_trans (List.length_filter_le _ _) (lm_count hS)
  · simp
theorem lmL_rng {t : Tsk} {s : List Int} {k : Nat} (hk : k < (lmL t s).length) : lmC t s = 0 ∧ fac (lmL t s) k ∈ lmks t s ∧ faB t.vars [fac (lmL t s) k] = true := by
  have hm := fac_mem hk
  by_cases hc : lmC t s = 0
  · rw [show lmL t s = lmks t s by unfold lmL; rw [if_pos hc]] at hm
    refine ⟨hc, by rw [show lmL t s = lmks t s by unfold lmL; rw [if_pos hc]]; exact hm, ?_⟩
    have h2 := (mem_lmks.1 hm).1
    have h3 := faB_one.2 h2
    rw [show lmL t s = lmks t s by unfold lmL; rw [if_pos hc]]
    exact h3
  · rw [show lmL t s = [] by unfold lmL; rw [if_neg hc]] at hk
    simp at hk

set_option maxRecDepth 100000 in
set_option maxHeartbeats 8000000 in
theorem lorders_any (t : Tsk) (q : LiesF) (G : Nat) (s : List Int) (AS : Option Addr) (cs : Nat) (w : World) (hF : FindAt w G t q) (hs : IntsAt w w.heap.size AS s) (hS : Smll t) :
    Calls Try.prog 17 #[.pointer (some ⟨G, 0, none⟩), .slice AS s.length cs] w fun e w' => OrdRet t s e w' ∧ Below w.heap.size w w' := by
  have K1 := Lib.hid (lfacts_any t q G s AS cs w hF hs hS.right)
  have K2 := Lib.hid (fun (a : Int × Int) wx (hb : Below w.heap.size w wx) hst => reached_any2 t q G s AS cs a wx (hF.up hb) (hs.up hb) hst hS.right)
  have hln := lmL_len (s := s) hS
  have hrg := fun k hk => lmL_rng (t := t) (s := s) (k := k) hk
  have hst0 : lmC t s = 0 → stB t.vars s = true := fun h => by
    cases e : stB t.vars s
    · unfold lmC at h; rw [e] at h; cases h
    · rfl
  obtain ⟨F, hFe⟩ : ∃ F, F = lmL t s := ⟨_, rfl⟩
  have HG : ∀ e w', (∃ v, e = .returned (.tuple #[v, erV (lmC t s)]) ∧ GotPs w' v (orL t s F)) → OrdRet t s e w' := fun e w' h => by rw [hFe] at h; exact h
  have HFc : ∀ e w', FacRet t s e w' → ∃ v, e = .returned (.tuple #[v, erV (lmC t s)]) ∧ GotFs w' v F := fun e w' h => by rw [hFe]; exact h
  rw [← hFe] at hln hrg
  have Hrg := Lib.hid hrg
  have Hst0 := Lib.hid hst0
  have HGo := Lib.hid HG
  have HFo := Lib.hid HFc
  obtain ⟨inf, hi, iz0, iz1, iz2⟩ := info_parts infoP2
  clear hF hS hrg hst0 HG HFc
  by_cases hc : lmC t s = 0
  case neg =>
    have hF0 : F = [] := by rw [hFe]; unfold lmL; rw [if_neg hc]
    have hne : erV (lmC t s) = .iface 64 (.int .i64 (lmC t s)) := by unfold erV; rw [if_neg hc]
    have Hne := Lib.hid hne
    have HF0 := Lib.hid hF0
    clear hFe hF0 hc hne K2
    go_enter Try.func17, Try.ntmps17
    go_wp2_with fail
    refine K1.out.mono ?_
    rintro e w1 ⟨hr, hb1⟩
    obtain ⟨v1, rfl, A1, c1, rfl, _, hf1⟩ := HFo.out _ _ hr
    rw [Hne.out]
    have HR := Lib.hid (HGo.out (.returned (.tuple #[.slice none 0 0, erV (lmC t s)])) w1 ⟨_, rfl, none, 0, by rw [HF0.out]; rfl, by rw [HF0.out]; exact ⟨by simp [orL, orN], fun h => absurd h (by simp [orL, orN])⟩⟩)
    clear hr hf1
    go_wp2
    refine bodyPost_ret (v := .tuple #[.slice none 0 0, .iface 64 (.int .i64 (lmC t s))]) (by simp [results, Try.results17, go_sem]) rfl ⟨?_, hb1⟩
    rw [← Hne.out]
    exact HR.out
  have Hst := Lib.hid (Hst0.out hc)
  have Hc := Lib.hid hc
  clear hc hFe Hst0
  go_enter Try.func17, Try.ntmps17
  go_wp2_with fail
  refine K1.out.mono ?_
  rintro e w1 ⟨hr, hbw1⟩
  obtain ⟨v1, rfl, A1, c1, rfl, _, hf1⟩ := HFo.out _ _ hr
  rw [Hc.out, erV_0]
  have Hf1 := Lib.hid hf1
  have z1 := hbw1.size
  clear hr hf1
  go_wp2
  go_loopw [8, 25] (fun v i wr => ∃ (k : Nat), k ≤ F.length ∧ i = .int .i64 k ∧ Hid (wr.ownsRow w1.heap.size 29 4 v (orN t s F k).length (pcl (orN t s F k))) ∧ Below w1.heap.size w1 wr) (fun _ i _ => F.length - (intOf i).toNat)
  case atStart => exact ⟨0, by omega, rfl, Lib.hid (World.ownsRow_nil _ _ _ _), Below.refl _ _⟩
  case round =>
    obtain ⟨k, hk, rfl, hown, hbel⟩ := hrel
    have hbz := hbel.size
    have hbwr : Below w.heap.size w wr := hbw1.trans (hbel.mono z1)
    by_cases hlt : k < F.length
    · obtain ⟨b1, o1, ea, hb1, hc1⟩ := Hf1.out.at_ hlt
      subst ea
      have d1 := (hbel.cell (p := ⟨b1, o1 + k * 2, none⟩) hb1).trans (hc1 k hlt).1
      have d2 := (hbel.cell (p := ⟨b1, o1 + k * 2 + 1, none⟩) hb1).trans (hc1 k hlt).2
      have g1 : b1 < wr.heap.size := by omega
      have Hc1 := Lib.hid hc1
      have k0 : (0 : Int) ≤ (k : Int) := by omega
      have k1 : (k : Int) < (F.length : Int) := by omega
      obtain ⟨wo, rfl⟩ : ∃ wo : World, wo = wr := ⟨_, rfl⟩
      have hbA : Below wo.heap.size wo (wo.alloc (.cells #[.int .i64 (fv F k), .int .i64 (fx F k)] 28)) := (Below.refl _ _).alloc (Nat.le_refl _) _
      have K3 := Lib.hid (K2.out (fac F k) _ (hbwr.trans (hbA.mono hbwr.size)) Hst.out)
      clear hc1
      go_wp2_with fail
      refine K3.out.mono ?_
      rintro e w3 ⟨⟨g, rb, rfl, hm, hgl, hrl⟩, hb3⟩
      simp only [World.size_alloc] at hgl hrl
      have hbo3 : Below wo.heap.size wo w3 := hbA.trans (hb3.mono (by simp))
      have hb13 := hbel.trans (hbo3.mono hbz)
      have z3 : wo.heap.size < w3.heap.size := by have := hb3.size; simp at this; omega
      have s0 : w3.cell? ⟨wo.heap.size, 0, none⟩ = some (.int .i64 (fv F k)) := (hb3.cell (p := ⟨wo.heap.size, 0, none⟩) (by simp)).trans (by simp)
      have s1 : w3.cell? ⟨wo.heap.size, 1, none⟩ = some (.int .i64 (fx F k)) := (hb3.cell (p := ⟨wo.heap.size, 1, none⟩) (by simp)).trans (by simp)
      have Hown3 := Lib.hid (own_below hown.out hbo3)
      have Hout3 := Lib.hid (OwnOut.start (X := wo.heap.size) (Y := w3.heap.size) hown.out (Nat.le_refl _))
      have HM := Lib.hid hm
      have Hglt := Lib.hid hm.glt
      have Hrlt := Lib.hid (fun j hj => hm.rlt (v := j) hj)
      have Hgl := Lib.hid hgl
      have Hrl := Lib.hid hrl
      clear hm hgl hrl d1 d2 g1 K3 hown
      go_wp2
      go_loopw [8, 35] (fun v i wr => ∃ (j : Nat), j ≤ F.length ∧ i = .int .i64 j ∧ Hid (wr.ownsRow w1.heap.size 29 4 v (orK t s F k j).length (pcl (orK t s F k j))) ∧ Hid (OwnOut v wo.heap.size w3.heap.size) ∧ wr.cell? ⟨wo.heap.size, 0, none⟩ = some (.int .i64 (fv F k)) ∧ wr.cell? ⟨wo.heap.size, 1, none⟩ = some (.int .i64 (fx F k)) ∧ Hid (MatIs wr g t.vars.length rb (Ld t) (rcB t s (fac F k))) ∧ Hid (w3.heap.size ≤ wr.heap.size) ∧ Below w1.heap.size w1 wr) (fun _ i _ => F.length - (intOf i).toNat)
      case atStart => exact ⟨0, by omega, rfl, Lib.hid (by rw [orK_zero]; exact Hown3.out), Hout3, s0, s1, HM, Lib.hid (Nat.le_refl _), hb13⟩
      case round =>
        clear s0 s1
        obtain ⟨j, hj, rfl, hown, hout, s0, s1, hM, hz3, hbel2⟩ := hrel
        have hz3' := hz3.out
        have hbz2 := hbel2.size
        by_cases hltj : j < F.length
        · have d1 := (hbel2.cell (p := ⟨b1, o1 + j * 2, none⟩) hb1).trans (Hc1.out j hltj).1
          have d2 := (hbel2.cell (p := ⟨b1, o1 + j * 2 + 1, none⟩) hb1).trans (Hc1.out j hltj).2
          have g1 : b1 < wr.heap.size := by omega
          have g2 : wo.heap.size < wr.heap.size := by omega
          have j0 : (0 : Int) ≤ (j : Int) := by omega
          have j1 : (j : Int) < (F.length : Int) := by omega
          have hlen := orK_len (t := t) (s := s) (F := F) k j
          have hlen2 : (orK t s F k j).length ≤ 600000 := Nat.le_trans hlen (Nat.le_trans (Nat.mul_le_mul (show k + 1 ≤ 768 by omega) hln) (by decide))
          have K4 := Lib.hid (fun (H : Nat) wx (hm : MatIs wx g t.vars.length rb (Ld t) (rcB t s (fac F k))) (hf : FactsAt wx wx.heap.size (some ⟨H, 0, none⟩) [fac F j]) => has_any t [fac F j] (rcB t s (fac F k)) (some ⟨g, 0, none⟩) (some ⟨H, 0, none⟩) t.vars.length 1 g rb wx (fun _ => rfl) hm hf (rng_fa (Hrg.out j hltj).2.2))
          have hho : hsM [fac F j] (rcB t s (fac F k)) = rcB t s (fac F k) (fac F j).1.toNat (fac F j).2.toNat := hs_one1
          have Hyes := Lib.hid (fun h => orK_yes (t := t) (s := s) (k := k) hltj h)
          have Hno := Lib.hid (fun h => orK_no (t := t) (s := s) (k := k) hltj h)
          have hbB : Below wr.heap.size wr (wr.alloc (.cells #[.int .i64 (fv F j), .int .i64 (fx F j)] 28)) := (Below.refl _ _).alloc (Nat.le_refl _) _
          clear hlen
          by_cases e1 : fv F k = fv F j ∧ fx F k = fx F j
          · have Hs := Lib.hid (Hno.out (by unfold ordB fac; rw [e1.1, e1.2]; simp))
            have hneq : ∀ w, (binOp .neq 28 (.agg #[.int .i64 (fv F k), .int .i64 (fx F k)]) (.agg #[.int .i64 (fv F j), .int .i64 (fx F j)])).run Try.prog w = .ok (.bool false) w := by intro w; simp [go_sem, e1.1, e1.2]
            clear e1 Hyes Hno K4 hho
            go_wp2
            go_roundw
            case rel => exact ⟨j + 1, by omega, by go_num, Lib.hid (by rw [Hs.out]; exact own_below hown.out hbB), hout, (hbB.cell (p := ⟨wo.heap.size, 0, none⟩) g2).trans s0, (hbB.cell (p := ⟨wo.heap.size, 1, none⟩) g2).trans s1, Lib.hid (hM.out.up hbB), Lib.hid (Nat.le_trans hz3' hbB.size), hbel2.trans (hbB.mono hbz2)⟩
            case measure => simp [intOf]; omega
          · have hneq : ∀ w, (binOp .neq 28 (.agg #[.int .i64 (fv F k), .int .i64 (fx F k)]) (.agg #[.int .i64 (fv F j), .int .i64 (fx F j)])).run Try.prog w = .ok (.bool true) w := by intro w; simp [go_sem]; omega
            have hne : fac F k ≠ fac F j := fun e => e1 ⟨congrArg Prod.fst e, congrArg Prod.snd e⟩
            have hor : ordB t s (fac F k) (fac F j) = !rcB t s (fac F k) (fac F j).1.toNat (fac F j).2.toNat := by unfold ordB; rw [decide_eq_true hne]; rfl
            rw [hho] at K4
            have Hor := Lib.hid hor
            clear e1 hne hor hho
            cases e2 : rcB t s (fac F k) (fac F j).1.toNat (fac F j).2.toNat
            · have Hs := Lib.hid (Hyes.out (by rw [Hor.out, e2]; rfl))
              rw [e2] at K4
              clear Hyes Hno Hor e2
              go_wp2_with fail
              refine (K4.out _ _ ((hM.out.up hbB).alloc _) (factsAt_one (by first | omega | (simp; done) | (simp; omega)) (by first | (go_simp; done) | (simp [*]; done)) (by first | (go_simp; done) | (simp [*]; done)))).mono ?_
              rintro e w6 ⟨rfl, hb6⟩
              have hb46 : Below wr.heap.size wr w6 := (hbB.alloc (by simp) _).trans (hb6.mono (by simp; omega))
              have t0 : w6.cell? ⟨wr.heap.size, 0, none⟩ = some (.int .i64 (fv F j)) := (hb6.cell (p := ⟨wr.heap.size, 0, none⟩) (by simp; omega)).trans (by simp)
              have t1 : w6.cell? ⟨wr.heap.size, 1, none⟩ = some (.int .i64 (fx F j)) := (hb6.cell (p := ⟨wr.heap.size, 1, none⟩) (by simp; omega)).trans (by simp)
              have s06 := (hb46.cell (p := ⟨wo.heap.size, 0, none⟩) g2).trans s0
              have s16 := (hb46.cell (p := ⟨wo.heap.size, 1, none⟩) g2).trans s1
              have z6 : wr.heap.size < w6.heap.size := by have := hb6.size; simp at this; omega
              have g26 : wo.heap.size < w6.heap.size := by omega
              have Hown6 := Lib.hid (own_below hown.out hb46)
              have hM6 := Lib.hid (hM.out.up hb46)
              have hb16 := hbel2.trans (hb46.mono hbz2)
              have z16 := hb16.size
              clear hb6
              go_wp2_with (at_builtin; refine wpList_push rfl _ _ 46 rfl w1.heap.size 29 inf (.agg #[.int .i64 0, .int .i64 0, .int .i64 0, .int .i64 0]) 4 32 undP2 hi iz0 iz1 iz2 rfl (by decide) (by decide) _ (orK t s F k j).length (pcl (orK t s F k j)) rfl (Hown6.out.alloc _) w6.heap.size 29 [.int .i64 (fv F k), .int .i64 (fx F k), .int .i64 (fv F j), .int .i64 (fx F j)] rfl rfl (heap_alloc_new _ _) (four_one rfl rfl rfl rfl) (by omega) (by first | omega | (simp; omega)) (B := w1.heap.size) (W := w1) (hb16.alloc z16 _) (Nat.le_refl _) ?_; intro v' w8 hown' hgrow hat hbw8; have Hown := Lib.hid hown'; have Hgrow := Lib.hid hgrow; have Hat := Lib.hid hat; clear hown' hgrow hat)
              have Hout8 := Lib.hid (hout.out.push Hat.out (by simp; omega))
              have hnX : some wo.heap.size ≠ u8.ownBlock := hout.out.ne (Nat.le_refl _) z3
              have hbk := Hgrow.out.block wo.heap.size (by simp; omega) hnX
              have s08 := (World.cell?_of_block (a := ⟨wo.heap.size, 0, none⟩) hbk).trans ((World.cell?_alloc_past _ _ _ g26).trans s06)
              have s18 := (World.cell?_of_block (a := ⟨wo.heap.size, 1, none⟩) hbk).trans ((World.cell?_alloc_past _ _ _ g26).trans s16)
              have hM8 := Lib.hid ((hM6.out.alloc _).grown Hgrow.out (hout.out.ne (by have := Hgl.out; omega) Hglt.out) (fun j hj => hout.out.ne (by have := Hrl.out j; omega) (Hrlt.out j hj)))
              have z8 : w3.heap.size ≤ w8.heap.size := by have := Hgrow.out.size; simp at this; omega
              go_wp2
              go_roundw
              case rel => exact ⟨j + 1, by omega, by go_num, Lib.hid (by rw [Hs.out, List.length_append, pcl_app]; exact Hown.out), Hout8, s08, s18, hM8, Lib.hid z8, hbw8⟩
              case measure => simp [intOf]; omega
            · have Hs := Lib.hid (Hno.out (by rw [Hor.out, e2]; rfl))
              rw [e2] at K4
              clear Hyes Hno Hor e2
              go_wp2_with fail
              refine (K4.out _ _ ((hM.out.up hbB).alloc _) (factsAt_one (by first | omega | (simp; done) | (simp; omega)) (by first | (go_simp; done) | (simp [*]; done)) (by first | (go_simp; done) | (simp [*]; done)))).mono ?_
              rintro e w6 ⟨rfl, hb6⟩
              have hb46 : Below wr.heap.size wr w6 := (hbB.alloc (by simp) _).trans (hb6.mono (by simp; omega))
              go_wp2
              go_roundw
              case rel => exact ⟨j + 1, by omega, by go_num, Lib.hid (by rw [Hs.out]; exact own_below hown.out hb46), hout, (hb46.cell (p := ⟨wo.heap.size, 0, none⟩) g2).trans s0, (hb46.cell (p := ⟨wo.heap.size, 1, none⟩) g2).trans s1, Lib.hid (hM.out.up hb46), Lib.hid (Nat.le_trans hz3' hb46.size), hbel2.trans (hb46.mono hbz2)⟩
              case measure => simp [intOf]; omega
        · obtain rfl : j = F.length := by omega
          have Hown4 := Lib.hid (show wr.ownsRow w1.heap.size 29 4 u8 (orN t s F (k + 1)).length (pcl (orN t s F (k + 1))) by rw [← orK_end]; exact hown.out)
          clear hown
          go_wp2
          go_roundw
          case rel => exact ⟨k + 1, by omega, by go_num, Hown4, hbel2⟩
          case measure => simp [intOf]; omega
    · obtain rfl : k = F.length := by omega
      have hlen3 : (orN t s F F.length).length ≤ 1000000 := Nat.le_trans (orN_len _) (Nat.le_trans (Nat.mul_le_mul hln hln) (by decide))
      obtain ⟨S, c, rfl, hP⟩ := pairs_own hown.out hlen3
      have HP := Lib.hid (HGo.out (.returned (.tuple #[.slice S (orN t s F F.length).length c, .nilIface])) wr ⟨_, by rw [Hc.out, erV_0]; rfl, S, c, rfl, hP⟩)
      clear hown hP
      go_wp2
      refine bodyPost_ret (v := .tuple #[.slice S (orN t s F F.length).length c, .nilIface]) (by simp [results, Try.results17, go_sem]) rfl ⟨HP.out, hbwr⟩

end Go.Proofs.Ythhfckjddknmeaa

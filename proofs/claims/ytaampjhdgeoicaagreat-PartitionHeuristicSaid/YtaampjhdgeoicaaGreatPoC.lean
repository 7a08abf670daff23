/- partition: Optimal. -/
import Derived.Test.YtaampjhdgeoicaaGreatMfA
import Derived.Test.YtaampjhdgeoicaaGreatPoB
namespace Go.Proofs.YtaampjhdgeoicaaGreat
set_option linter.unusedSimpArgs false
set_option linter.unusedVariables false
open Go Go.RowKit
set_option linter.unusedVariables false

/-- The program's lists. -/
def lnL (l : List Cut) (o k : Nat) : List (Int × Int) := (List.range k).map fun j => (if inF l o j then 1 else 0, 1)
def opR (l : List Cut) (kl : List Nat) : List (List (Int × Int)) := kl.map fun o => lnL l o l.length
def opB (costs : List Int) (kl : List Nat) : List (Int × Int) := kl.map fun o => (nth costs o, 1)
section
variable {costs : List Int} {l : List Cut} {o k j i : Nat} {kl : List Nat}
theorem lnL_len : (lnL l o k).length = k := by unfold lnL; simp
theorem lnL_succ : lnL l o (k + 1) = lnL l o k ++ [(if inF l o k then 1 else 0, 1)] := by unfold lnL; rw [List.range_succ, List.map_append]; rfl
theorem lnL_at (h : j < k) : fv (lnL l o k) j = (if inF l o j then 1 else 0) ∧ fx (lnL l o k) j = 1 := by unfold lnL fv fx; simp [List.getD, h]
theorem opR_len : (opR l kl).length = kl.length := by unfold opR; simp
theorem opB_len : (opB costs kl).length = kl.length := by unfold opB; simp
theorem opR_at (h : i < kl.length) : mr (opR l kl) i = lnL l (opA kl i) l.length := by unfold mr opR opA; simp [List.getD, h]
theorem opB_at (h : i < kl.length) : fv (opB costs kl) i = nth costs (opA kl i) ∧ fx (opB costs kl) i = 1 := by unfold fv fx opB opA; simp [List.getD, h]
theorem opR_push : opR l (kl ++ [o]) = opR l kl ++ [lnL l o l.length] := by unfold opR; rw [List.map_append]; rfl
theorem opB_push : opB costs (kl ++ [o]) = opB costs kl ++ [(nth costs o, 1)] := by unfold opB; rw [List.map_append]; rfl
theorem take_opA (h : i < kl.length) : kl.take (i + 1) = kl.take i ++ [opA kl i] := by
 rw [List.take_succ_eq_append_getElem h]
 unfold opA
 simp [List.getD, h]
theorem opsK_mem : ∀ k i, i < (opsK l k).length → opA (opsK l k) i < k ∧ anyIn l (opA (opsK l k) i) = true
 | 0, i, h => absurd h (by simp [opsK])
 | k + 1, i, h => by
  cases ha : anyIn l k
  ·rw [opsK_no ha] at h ⊢
   have := opsK_mem k i h
   exact ⟨by omega, this.2⟩
  ·rw [opsK_yes ha] at h ⊢
   rw [List.length_append] at h
   have h2 : i < (opsK l k).length + 1 := h
   by_cases e : i < (opsK l k).length
   ·rw [opA_lt e]
    have := opsK_mem k i e
    exact ⟨by omega, this.2⟩
   ·obtain rfl : i = (opsK l k).length := by omega
    rw [opA_eq]
    exact ⟨by omega, ha⟩
theorem kpK_mem (costs : List Int) (l : List Cut) (ol : List Nat) : ∀ k, k ≤ ol.length → ∀ i, i < (kpK costs l ol k).length → ∃ t, t < k ∧ opA (kpK costs l ol k) i = opA ol t ∧ btR costs l ol t = false
 | 0, _, i, h => absurd h (by simp [kpK])
 | k + 1, hk, i, h => by
  cases ha : btR costs l ol k
  ·rw [kpK_yes ha] at h ⊢
   rw [List.length_append] at h
   have h2 : i < (kpK costs l ol k).length + 1 := h
   by_cases e : i < (kpK costs l ol k).length
   ·rw [opA_lt e]
    obtain ⟨t, h1, h2, h3⟩ := kpK_mem costs l ol k (by omega) i e
    exact ⟨t, by omega, h2, h3⟩
   ·obtain rfl : i = (kpK costs l ol k).length := by omega
    rw [opA_eq]
    exact ⟨k, by omega, rfl, ha⟩
  ·rw [kpK_no ha] at h ⊢
   obtain ⟨t, h1, h2, h3⟩ := kpK_mem costs l ol k (by omega) i h
   exact ⟨t, by omega, h2, h3⟩
end
/-- What is kept, of costs and cuts. -/
def keptL (costs : List Int) (l : List Cut) : List Nat := kpK costs l (opsK l costs.length) (opsK l costs.length).length
theorem kept_le (costs : List Int) (l : List Cut) : (keptL costs l).length ≤ costs.length := Nat.le_trans (kpK_le _ _ _ _) (opsK_le _ _)
theorem kept_lt {costs : List Int} {l : List Cut} {i : Nat} (h : i < (keptL costs l).length) : opA (keptL costs l) i < costs.length := by
 obtain ⟨t, h1, h2, _⟩ := kpK_mem costs l (opsK l costs.length) _ (Nat.le_refl _) i h
 unfold keptL
 rw [h2]
 exact (opsK_mem _ t h1).1
theorem opt_chk {costs : List Int} {l : List Cut} (g : Good38 costs l) (hn : costs.length ≤ 24) : chk37 (onL l.length) (opR l (keptL costs l)) (opB costs (keptL costs l)) = 0 := by
 have hk := kept_le costs l
 refine chk_mk ⟨by rw [onL_len]; exact g.many, by rw [opR_len]; omega, by rw [opR_len, opB_len], fun i hi => ?_, onL_pr _, ?_, fun i hi => ?_, fun i hi => ?_⟩
 ·rw [opR_len] at hi
  rw [opR_at hi, lnL_len, onL_len]
 ·refine prL_iff.2 fun j hj => ?_
  rw [opB_len] at hj
  rw [(opB_at hj).1, (opB_at hj).2]
  have hc := g.cost _ (kept_lt hj)
  have e : nth costs (opA (keptL costs l) j) = ((nth costs (opA (keptL costs l) j)).toNat : Int) := by omega
  rw [e]
  have hr : Rep (((nth costs (opA (keptL costs l) j)).toNat : Nat) : Rat) := by
   unfold Rep aI
   rw [Rat.num_natCast, Rat.den_natCast]
   omega
  have := rep_pr hr
  rwa [Rat.num_natCast, Rat.den_natCast] at this
 ·rw [opR_len] at hi
  rw [opR_at hi]
  refine prL_iff.2 fun j hj => ?_
  rw [lnL_len] at hj
  rw [(lnL_at hj).1, (lnL_at hj).2]
  split <;> decide
 ·rw [opB_len] at hi
  rw [(opB_at hi).1]
  exact (g.cost _ (kept_lt hi)).1

/-- The matrix and the right-hand sides under way. -/
structure OpW (w : World) (B : Nat) (R : List (List (Int × Int))) (lb : List (Int × Int)) (v8 v9 : Value) (xs : List Value) : Prop where
 b : w.ownsRow B 45 2 v8 lb.length (fc lb)
 m : w.ownsRow B 37 1 v9 R.length xs
 len : xs.length = R.length
 at_ : ∀ i, i < R.length → ∃ S cS, xs[i]? = some (.slice S (mr R i).length cS) ∧ (S = none → cS = 0) ∧ FactsAt w w.heap.size S (mr R i) ∧ ∀ p, S = some p → (∃ cur u, w.heap[p.block]? = some (.cells cur 45 u)) ∧ v8.ownBlock ≠ some p.block
theorem blk_lt {w : World} {H : Nat} {o : Obj} (h : w.heap[H]? = some o) : H < w.heap.size := (Array.getElem?_eq_some_iff.1 h).1
theorem facts_block {w w' : World} {A : Option Addr} {o : List (Int × Int)} (h : FactsAt w w.heap.size A o) (hs : w.heap.size ≤ w'.heap.size) (hb : ∀ p, A = some p → w'.heap[p.block]? = w.heap[p.block]?) : FactsAt w' w'.heap.size A o :=
 ⟨h.1, fun h0 => by
  obtain ⟨b, off, e, hlt, hc⟩ := h.2 h0
  have hbb := hb _ e
  exact ⟨b, off, e, Nat.lt_of_lt_of_le hlt hs, fun k hk => ⟨(World.cell?_of_block (a := ⟨b, off + k * 2, none⟩) hbb).trans (hc k hk).1, (World.cell?_of_block (a := ⟨b, off + k * 2 + 1, none⟩) hbb).trans (hc k hk).2⟩⟩⟩
section
variable {w w' : World} {B : Nat} {R : List (List (Int × Int))} {lb o : List (Int × Int)} {v8 v9 v : Value} {xs : List Value} {x y : Int} {S : Option Addr} {cS : Nat}
theorem OpW.nil : OpW w B [] [] (.slice none 0 0) (.slice none 0 0) [] := ⟨World.ownsRow_nil _ _ _ _, World.ownsRow_nil _ _ _ _, rfl, fun i hi => absurd hi (by simp)⟩
theorem OpW.up (h : OpW w B R lb v8 v9 xs) (hb : Below w.heap.size w w') : OpW w' B R lb v8 v9 xs := ⟨own_below h.b hb, own_below h.m hb, h.len, fun i hi => by
 obtain ⟨S, cS, h1, h2, h3, h4⟩ := h.at_ i hi
 refine ⟨S, cS, h1, h2, factsAt_up h3 hb, fun p hp => ?_⟩
 obtain ⟨⟨cur, u, h5⟩, h6⟩ := h4 p hp
 exact ⟨⟨cur, u, (hb.block _ (blk_lt h5)).trans h5⟩, h6⟩⟩
theorem OpW.pushM (h : OpW w B R lb v8 v9 xs) (hS0 : S = none → cS = 0) (hF : FactsAt w w.heap.size S o) (hS : ∀ p, S = some p → (∃ cur u, w.heap[p.block]? = some (.cells cur 45 u)) ∧ v8.ownBlock ≠ some p.block) (ho : w'.ownsRow B 37 1 v (R.length + 1) (xs ++ [.slice S o.length cS])) (hg : w.grownBy w' v9.ownBlock) : OpW w' B (R ++ [o]) lb v8 v (xs ++ [.slice S o.length cS]) := by
 have hne : ∀ (H : Nat) (cur : Array Value) (u : Nat × Nat), w.heap[H]? = some (.cells cur 45 u) → w'.heap[H]? = w.heap[H]? := fun H cur u h1 => hg.block H (blk_lt h1) fun e2 => by
  rcases h.m.2 with ⟨rfl, _⟩ | ⟨g, cap, cur', rfl, _, hg', _⟩
  ·cases e2
  ·have e3 : H = g := by simpa [Value.ownBlock] using e2
   rw [e3, hg'] at h1
   injection h1 with h1
   injection h1 with _ ht
   exact absurd ht (by decide)
 refine ⟨h.b.kept hg (own_apt3 h.b h.m (by decide)), by rw [List.length_append]; exact ho, by rw [List.length_append, List.length_append, h.len]; rfl, fun i hi => ?_⟩
 rw [List.length_append] at hi
 have hi2 : i < R.length + 1 := hi
 by_cases e : i < R.length
 ·obtain ⟨S', c', h1, h2, h3, h4⟩ := h.at_ i e
  rw [mr_lt e]
  refine ⟨S', c', by rw [List.getElem?_append_left (by rw [h.len]; exact e)]; exact h1, h2, facts_block h3 hg.size fun p hp => ?_, fun p hp => ?_⟩
  ·obtain ⟨⟨cur, u, h5⟩, _⟩ := h4 p hp
   exact hne _ _ _ h5
  ·obtain ⟨⟨cur, u, h5⟩, h6⟩ := h4 p hp
   exact ⟨⟨cur, u, (hne _ _ _ h5).trans h5⟩, h6⟩
 ·obtain rfl : i = R.length := by omega
  rw [mr_eq]
  refine ⟨S, cS, by rw [List.getElem?_append_right (by rw [h.len]; exact Nat.le_refl _), h.len, Nat.sub_self]; rfl, hS0, facts_block hF hg.size fun p hp => ?_, fun p hp => ?_⟩
  ·obtain ⟨⟨cur, u, h5⟩, _⟩ := hS p hp
   exact hne _ _ _ h5
  ·obtain ⟨⟨cur, u, h5⟩, h6⟩ := hS p hp
   exact ⟨⟨cur, u, (hne _ _ _ h5).trans h5⟩, h6⟩
theorem OpW.pushB (h : OpW w B R lb v8 v9 xs) (ho : w'.ownsRow B 45 2 v (lb.length + 1) (fc lb ++ [.int .i64 x, .int .i64 y])) (hg : w.grownBy w' v8.ownBlock) (hat : v.ownBlock = v8.ownBlock ∨ v.ownBlock = some w.heap.size) : OpW w' B R (lb ++ [(x, y)]) v v9 xs where
 b := by rw [List.length_append, fc_app]; exact ho
 m := h.m.kept hg (own_apt3 h.m h.b (by decide))
 len := h.len
 at_ := fun i hi => by
  obtain ⟨S', c', h1, h2, h3, h4⟩ := h.at_ i hi
  have hbk : ∀ p, S' = some p → w'.heap[p.block]? = w.heap[p.block]? := fun p hp => by
   obtain ⟨⟨cur, u, h5⟩, h6⟩ := h4 p hp
   exact hg.block _ (blk_lt h5) (Ne.symm h6)
  refine ⟨S', c', h1, h2, facts_block h3 hg.size hbk, fun p hp => ?_⟩
  obtain ⟨⟨cur, u, h5⟩, h6⟩ := h4 p hp
  refine ⟨⟨cur, u, (hbk p hp).trans h5⟩, ?_⟩
  rcases hat with e | e
  ·rw [e]; exact h6
  ·rw [e]
   intro e2
   injection e2 with e2
   have := blk_lt h5
   omega
theorem OpW.sls (h : OpW w B R lb v8 v9 xs) : Sls w R xs := ⟨h.len, fun i hi => by
 obtain ⟨S, cS, h1, h2, h3, _⟩ := h.at_ i hi
 exact ⟨S, cS, h1, h2, h3⟩⟩
theorem own_blockTy {n c : Nat} {A : Option Addr} {zs : List Value} (h : w.ownsRow B 45 2 (.slice A n c) n zs) {p : Addr} (hp : A = some p) : (∃ cur u, w.heap[p.block]? = some (.cells cur 45 u)) ∧ B ≤ p.block := by
 subst hp
 rcases h.2 with ⟨e, _⟩ | ⟨g, cap, cur, e, hb, hg, _⟩
 ·cases e
 ·injection e with e1 _ _
  injection e1 with e1
  subst e1
  exact ⟨⟨cur, _, hg⟩, hb⟩
end

def PoRet (costs : List Int) (l : List Cut) (e : Ending) (w' : World) : Prop :=
 (chk38 costs l ≠ 0 ∧ e = .returned (.tuple #[.slice none 0 0, errV (chk38 costs l)])) ∨ (chk38 costs l = 0 ∧ ((∃ cd, Fin (keptL costs l).length (l.length + (keptL costs l).length) (T37 (onL l.length) (opR l (keptL costs l)) (opB costs (keptL costs l))) (.err cd) ∧ e = .returned (.tuple #[.slice none 0 0, .iface 49 (.int .i64 cd)])) ∨
  ∃ T bx, Fin (keptL costs l).length (l.length + (keptL costs l).length) (T37 (onL l.length) (opR l (keptL costs l)) (opB costs (keptL costs l))) (.ok T) ∧ e = .returned (.tuple #[.slice (some ⟨bx, 0, none⟩) l.length l.length, .nilIface]) ∧ FrRow w' bx l.length (xB (keptL costs l).length T)))

set_option maxRecDepth 100000 in
set_option maxHeartbeats 8000000 in
theorem optimal_any (costs : List Int) (l : List Cut) (A1 A2 : Option Addr) (c1 c2 : Nat) (w : World) (h1 : IntsAt w w.heap.size A1 costs) (h2 : CutsAt w w.heap.size A2 l) (hn : costs.length ≤ 24) :
  Calls Tryz.prog 39 #[.slice A1 costs.length c1, .slice A2 l.length c2] w fun e w' => PoRet costs l e w' ∧ Below w.heap.size w w' := by
 have k1 := fun w1 (hb : Below w.heap.size w w1) => check38_any costs l A1 A2 c1 c2 w1 (h1.up hb) (h2.up hb)
 have l1 := h1.len
 have l2 := h2.len
 by_cases e0 : chk38 costs l = 0
 case neg =>
  have He := Lib.hid (errV_ne e0)
  have HF := Lib.hid (show ∀ w', PoRet costs l (.returned (.tuple #[.slice none 0 0, .iface 49 (.int .i64 (chk38 costs l))])) w' from fun w' => .inl ⟨e0, by rw [errV_ne e0]⟩)
  simp only [He.out] at k1
  have K1 := Lib.hid k1
  clear e0 k1 h1 h2
  go_enter Tryz.func39, Tryz.ntmps39
  go_wp2_with fail
  refine (K1.out _ (Below.refl _ _)).mono ?_
  rintro e w3 ⟨rfl, hb3⟩
  go_wp2
  refine bodyPost_ret (v := .tuple #[.slice none 0 0, .iface 49 (.int .i64 (chk38 costs l))]) (by simp [results, Tryz.results39, go_sem]) rfl ⟨HF.out _, hb3⟩
 have G := Lib.hid (good38 e0)
 have hm24 := G.out.many
 have E0 := Lib.hid e0
 simp only [e0, errV_0] at k1
 have K1 := Lib.hid k1
 have KR := Lib.hid (fun wx (h : Below w.heap.size w wx) => rows_any costs l A1 A2 c1 c2 wx (h1.up h) (h2.up h) (by omega) (by omega))
 have KW := Lib.hid whole_any
 obtain ⟨inf, hi, iz0, iz1, iz2⟩ := info_parts infoC
 obtain ⟨inr, hir, jz0, jz1, jz2⟩ := info_parts infoR7
 clear e0 k1 h1 h2
 go_enter Tryz.func39, Tryz.ntmps39
 go_wp2_with fail
 refine (K1.out _ (Below.refl _ _)).mono ?_
 rintro e w3 ⟨rfl, hb3⟩
 have z3 := hb3.size
 go_wp2
 go_loopw [7, 27] (fun v i wr => ∃ (k : Nat) (A' : Option Addr) (c' : Nat), k ≤ l.length ∧ i = .int .i64 k ∧ v = .slice A' k c' ∧ Hid (wr.ownsRow w.heap.size 45 2 (.slice A' k c') (onL k).length (fc (onL k))) ∧ Below w.heap.size w wr) (fun _ i _ => l.length - (intOf i).toNat)
 case atStart => exact ⟨0, none, 0, by omega, rfl, rfl, Lib.hid (World.ownsRow_nil _ _ _ _), hb3⟩
 case round =>
  obtain ⟨k, A', c', hk, rfl, rfl, hown, hbel⟩ := hrel
  have hbz := hbel.size
  have Hl1 := Lib.hid (onL_len k)
  have Hl2 := Lib.hid (onL_len (k + 1))
  have HSc := Lib.hid (onL_succ k)
  by_cases hltk : k < l.length
  ·go_wp2_with fail
   refine (KW.out _ _).mono ?_
   rintro e w6 ⟨rfl, hb6⟩
   have hbw := hbel.trans (hb6.mono hbz)
   have zw := hbw.size
   have Ho6 := Lib.hid (own_below hown.out hb6)
   clear hb6
   go_wp2_with (at_builtin; refine wpList_push rfl _ _ 37 rfl w.heap.size 45 inf (.agg #[.int .i64 0, .int .i64 0]) 2 16 undC hi iz0 iz1 iz2 rfl (by decide) (by decide) _ (onL k).length (fc (onL k)) rfl (Ho6.out.alloc _) w6.heap.size 45 [.int .i64 1, .int .i64 1] rfl rfl (heap_alloc_new _ _) (two_one rfl rfl) (by have := Hl1.out; omega) (by first | omega | (simp; omega)) (B := w.heap.size) (W := w) (hbw.alloc zw _) (Nat.le_refl _) ?_; intro v8 w8 ho8 hg8 hat8 hb8; have ho9 : w8.ownsRow w.heap.size 45 2 v8 (onL (k + 1)).length (fc (onL (k + 1))) := (by rw [HSc.out, List.length_append, fc_app]; exact ho8); obtain ⟨A8, c8, rfl⟩ := own_shapeL ho9 Hl2.out; have Ho9 := Lib.hid ho9; clear ho8 ho9 hg8 hat8)
   go_roundw
   case rel => exact ⟨k + 1, A8, c8, by omega, by go_num, rfl, Ho9, hb8⟩
   case measure => simp [intOf]; omega
  ·obtain rfl : l.length = k := by omega
   obtain ⟨w5, hw5⟩ : ∃ w5 : World, w5 = wr := ⟨_, rfl⟩
   rw [← hw5] at hown hbel hbz ⊢
   clear hw5
   obtain ⟨Ao, co, e7, hzo, hFo⟩ := own_fracs hown.out (by have := Hl1.out; omega)
   injection e7 with e71 e72 e73
   subst e71 e73
   have HFo := Lib.hid hFo
   clear hown e72 hFo hzo Hl1 Hl2 HSc
   go_wp2_with fail
   refine (KR.out _ hbel).mono ?_
   rintro e w6 ⟨⟨vr, rb, rfl, hro⟩, hb6⟩
   have HKe : Hid (keptL costs l = kpK costs l (opsK l costs.length) (opsK l costs.length).length) := Lib.hid rfl
   obtain ⟨kl, hkl⟩ : ∃ kl, kl = keptL costs l := ⟨_, rfl⟩
   rw [← HKe.out, ← hkl] at hro
   have HKL := Lib.hid hkl
   have hkll : kl.length ≤ 24 := by rw [hkl]; exact Nat.le_trans (kept_le _ _) hn
   clear hkl
   obtain ⟨Ar, cr, rfl⟩ := own_shape hro.own
   have HRO := Lib.hid hro
   have B6 := hbel.trans (hb6.mono hbz)
   have z6 := B6.size
   have HFo6 := Lib.hid (factsAt_up HFo.out hb6)
   clear hro hb6 hbel hbz HFo
   go_wp2
   go_loopw [8, 9, 38] (fun v8 v9 i wr => ∃ (k : Nat) (A8 A9 : Option Addr) (c8 c9 : Nat) (xs : List Value), k ≤ kl.length ∧ i = .int .i64 k ∧ v8 = .slice A8 k c8 ∧ v9 = .slice A9 k c9 ∧ Hid (OpW wr w6.heap.size (opR l (kl.take k)) (opB costs (kl.take k)) (.slice A8 k c8) (.slice A9 k c9) xs) ∧ Below w6.heap.size w6 wr) (fun _ _ i _ => kl.length - (intOf i).toNat)
   case atStart => exact ⟨0, none, none, 0, 0, [], by omega, rfl, rfl, rfl, Lib.hid OpW.nil, Below.refl _ _⟩
   case round =>
    obtain ⟨k, A8, A9, c8, c9, xs, hk, rfl, rfl, rfl, hop, hbel⟩ := hrel
    obtain ⟨wv, hwv⟩ : ∃ wv : World, wv = wr := ⟨_, rfl⟩
    rw [← hwv] at hop hbel ⊢
    clear hwv
    have zv := hbel.size
    by_cases hltk : k < kl.length
    ·obtain ⟨g5, cap5, hv5, hb5, hg5⟩ := World.ownsRow.form HRO.out.own (by omega)
     injection hv5 with hv51 hv52 hv53
     subst hv51
     obtain ⟨d0', d1'⟩ := HRO.out.cell hltk
     have d0 := (hbel.cell (p := ⟨g5, k * 2, none⟩) hg5).trans d0'
     have d1 := (hbel.cell (p := ⟨g5, k * 2 + 1, none⟩) hg5).trans d1'
     have g5v : g5 < wv.heap.size := by omega
     have k0 : (0 : Int) ≤ (k : Int) := by omega
     have k1 : (k : Int) < (kl.length : Int) := by omega
     have HBL := Lib.hid (fun wx (h : Below wv.heap.size wv wx) => (HRO.out.rows k hltk).up (hbel.trans (h.mono zv)))
     have HT := Lib.hid (take_opA hltk)
     obtain ⟨o, ho⟩ : ∃ o, o = opA kl k := ⟨_, rfl⟩
     rw [← ho] at d1 HBL HT
     obtain ⟨co', hco⟩ : ∃ co', co' = nth costs o := ⟨_, rfl⟩
     rw [← hco] at d1
     have HCO := Lib.hid hco
     clear d0' d1' hv52 hv53 ho hco
     obtain ⟨rk, hrk⟩ : ∃ rk, rk = rb k := ⟨_, rfl⟩
     rw [← hrk] at d0 HBL
     clear hrk
     go_wp2
     have hbb : Below wv.heap.size wv (wv.alloc (.cells #[.slice (some ⟨rk, 0, none⟩) l.length l.length, .int .i64 co'] 139)) := (Below.refl _ _).alloc (Nat.le_refl _) _
     have hX0 : rowGe (wv.alloc (.cells #[.slice (some ⟨rk, 0, none⟩) l.length l.length, .int .i64 co'] 139)) wv.heap.size 139 2 (fun t => if t = 0 then .slice (some ⟨rk, 0, none⟩) l.length l.length else .int .i64 co') := ⟨_, heap_alloc_new _ _, by simp, fun t ht => by rcases t with _ | _ | t <;> first | rfl | omega⟩
     obtain ⟨wb, hwb⟩ : ∃ wb, wb = wv.alloc (.cells #[.slice (some ⟨rk, 0, none⟩) l.length l.length, .int .i64 co'] 139) := ⟨_, rfl⟩
     obtain ⟨X, hX⟩ : ∃ X, X = wv.heap.size := ⟨_, rfl⟩
     rw [← hwb, ← hX] at hX0 ⊢
     rw [← hwb] at hbb
     have HX0 := Lib.hid hX0
     clear hwb hX hX0
     have zb := hbb.size
     go_loopw [12, 45] (fun v j wx => ∃ (j' : Nat) (A' : Option Addr) (c' : Nat), j' ≤ l.length ∧ j = .int .i64 j' ∧ v = .slice A' j' c' ∧ Hid (wx.ownsRow wb.heap.size 45 2 (.slice A' j' c') (lnL l o j').length (fc (lnL l o j'))) ∧ Below wb.heap.size wb wx) (fun _ j _ => l.length - (intOf j).toNat)
     case atStart => exact ⟨0, none, 0, by omega, rfl, rfl, Lib.hid (World.ownsRow_nil _ _ _ _), Below.refl _ _⟩
     case round =>
      obtain ⟨j, A', c', hj, rfl, rfl, hown, hbj⟩ := hrel
      have zj := hbj.size
      have Hl1 := Lib.hid (lnL_len (l := l) (o := o) (k := j))
      have Hl2 := Lib.hid (lnL_len (l := l) (o := o) (k := j + 1))
      have HSc := Lib.hid (lnL_succ (l := l) (o := o) (k := j))
      have hbv := hbb.trans (hbj.mono zb)
      by_cases hltj : j < l.length
      ·have r0 := rowGe.cell (HBL.out _ hbv) hltj
       have r1 := rowGe.lt (HBL.out _ hbv)
       have j0 : (0 : Int) ≤ (j : Int) := by omega
       have j1 : (j : Int) < (l.length : Int) := by omega
       obtain ⟨bt, hbt⟩ : ∃ bt, bt = inF l o j := ⟨_, rfl⟩
       rw [← hbt] at r0 HSc
       clear hbt
       cases bt
       all_goals
        simp only [if_true, if_false, Bool.false_eq_true] at HSc
        go_wp2_with fail
        refine (KW.out _ _).mono ?_
        rintro e w9 ⟨rfl, hb9⟩
        have hbj9 := hbj.trans (hb9.mono zj)
        have zj9 := hbj9.size
        have Ho6 := Lib.hid (own_below hown.out hb9)
        clear hb9
       ·go_wp2_with (at_builtin; refine wpList_push rfl _ _ 37 rfl wb.heap.size 45 inf (.agg #[.int .i64 0, .int .i64 0]) 2 16 undC hi iz0 iz1 iz2 rfl (by decide) (by decide) _ (lnL l o j).length (fc (lnL l o j)) rfl (Ho6.out.alloc _) w9.heap.size 45 [.int .i64 0, .int .i64 1] rfl rfl (heap_alloc_new _ _) (two_one rfl rfl) (by have := Hl1.out; omega) (by first | omega | (simp; omega)) (B := wb.heap.size) (W := wb) (hbj9.alloc zj9 _) (Nat.le_refl _) ?_; intro v8' w8 ho8 hg8 hat8 hb8; have ho9 : w8.ownsRow wb.heap.size 45 2 v8' (lnL l o (j + 1)).length (fc (lnL l o (j + 1))) := (by rw [HSc.out, List.length_append, fc_app]; exact ho8); obtain ⟨A8', c8', rfl⟩ := own_shapeL ho9 Hl2.out; have Ho9 := Lib.hid ho9; clear ho8 ho9 hg8 hat8)
        go_roundw
        case rel => exact ⟨j + 1, A8', c8', by omega, by go_num, rfl, Ho9, hb8⟩
        case measure => simp [intOf]; omega
       ·go_wp2_with (at_builtin; refine wpList_push rfl _ _ 37 rfl wb.heap.size 45 inf (.agg #[.int .i64 0, .int .i64 0]) 2 16 undC hi iz0 iz1 iz2 rfl (by decide) (by decide) _ (lnL l o j).length (fc (lnL l o j)) rfl (Ho6.out.alloc _) w9.heap.size 45 [.int .i64 1, .int .i64 1] rfl rfl (heap_alloc_new _ _) (two_one rfl rfl) (by have := Hl1.out; omega) (by first | omega | (simp; omega)) (B := wb.heap.size) (W := wb) (hbj9.alloc zj9 _) (Nat.le_refl _) ?_; intro v8' w8 ho8 hg8 hat8 hb8; have ho9 : w8.ownsRow wb.heap.size 45 2 v8' (lnL l o (j + 1)).length (fc (lnL l o (j + 1))) := (by rw [HSc.out, List.length_append, fc_app]; exact ho8); obtain ⟨A8', c8', rfl⟩ := own_shapeL ho9 Hl2.out; have Ho9 := Lib.hid ho9; clear ho8 ho9 hg8 hat8)
        go_roundw
        case rel => exact ⟨j + 1, A8', c8', by omega, by go_num, rfl, Ho9, hb8⟩
        case measure => simp [intOf]; omega
      ·obtain rfl : l.length = j := by omega
       have hbvw := hbel.trans (hbv.mono zv)
       have zvw := hbvw.size
       have x1 := rowGe.cell (rowGe.up HX0.out hbj) (i := 1) (by decide)
       have x2 := rowGe.lt (rowGe.up HX0.out hbj)
       simp only [if_false, Nat.one_ne_zero] at x1
       obtain ⟨wt, hwt⟩ : ∃ wt : World, wt = wr := ⟨_, rfl⟩
       rw [← hwt] at hown hbj zj hbv hbvw zvw x1 x2 ⊢
       clear hwt
       have HOP := Lib.hid (hop.out.up hbv)
       have HSB := Lib.hid (show ∀ (p : Addr), A' = some p → (∃ cur u, wt.heap[p.block]? = some (.cells cur 45 u)) ∧ Value.ownBlock (.slice A8 k c8) ≠ some p.block from fun p hp => by
        obtain ⟨h5, h6⟩ := own_blockTy (own_len hown.out Hl1.out) hp
        refine ⟨h5, fun e => ?_⟩
        have h7 := (hop.out.b.lt _ e).2
        have := hbb.size
        omega)
       obtain ⟨Aq, cq, e7, hzq, hFq⟩ := own_fracs hown.out (by have := Hl1.out; omega)
       injection e7 with e71 e72 e73
       subst e71 e73
       have HFq := Lib.hid hFq
       have HZq := Lib.hid hzq
       clear hown hFq hzq e72 hop hbv
       obtain ⟨LR, hLR⟩ : ∃ LR, LR = opR l (kl.take k) := ⟨_, rfl⟩
       obtain ⟨LB, hLB⟩ : ∃ LB, LB = opB costs (kl.take k) := ⟨_, rfl⟩
       rw [← hLR, ← hLB] at HOP
       have HLRl := Lib.hid (show LR.length = k by rw [hLR, opR_len, List.length_take]; omega)
       have HLBl := Lib.hid (show LB.length = k by rw [hLB, opB_len, List.length_take]; omega)
       have HLRs := Lib.hid (show opR l (kl.take (k + 1)) = LR ++ [lnL l o l.length] by rw [HT.out, opR_push, hLR])
       have HLBs := Lib.hid (show opB costs (kl.take (k + 1)) = LB ++ [(co', 1)] by rw [HT.out, opB_push, hLB, HCO.out])
       clear hLR hLB
       go_wp2_with fail
       have hXn9 := rowGe.ne (rowGe.up HX0.out hbj) HOP.out.m (by decide)
       refine wp_region_G 7 (fun w' => w'.cell? ⟨X, 1, none⟩ = some (.int .i64 co')) (by kernel_rfl) (x1) ?_
       intro hG0
       refine wpS1 0 hG0 ?_; intro hG1; clear hG0
       refine wpS1 1 hG1 ?_; intro hG2; clear hG1
       refine wpS1 4 hG2 ?_; intro hG3; clear hG2
       refine wpS1 5 hG3 ?_; intro hG4; clear hG3
       refine wpS2 6 hG4 ?_; intro hG5; clear hG4
       refine wpAnyG_ready (rs := [2]) (by kernel_rfl) (by simp) (AllG.cons rfl hG5 (fun K hK => ?_) AllG.nil)
       (go_simp)
       refine hK.out _ _ (Or.inr ((Below.cell (show Below wt.heap.size wt _ by exact bel) (p := ⟨X, 1, none⟩) x2).trans x1)) (fun hG6 => wpN ?_); clear hK hG5
       refine wpAnyG_ready (rs := [3]) (by kernel_rfl) (by simp) (AllG.cons rfl hG6 (fun K hK => ?_) AllG.nil)
       (refine step_append_src (by rfl) _ _ 101 (by rfl) w6.heap.size 37 inr (.slice none 0 0) 1 24 undR7 hir jz0 jz1 jz2 rfl (by decide) (.slice A9 k c9) LR.length xs (by rfl) (by exact own_below HOP.out.m (by exact bel)) (some ⟨wt.heap.size, 0, none⟩) 1 1 [.slice A' l.length c'] (by rfl) (src_ofS (T := 37) (by exact heap_alloc_new _ _) rfl (one_one rfl)) (by unfold maxLen; have := HLRl.out; omega) (by have := HLRl.out; omega) (by first | (simp; done) | (simp; omega)) ?_; intro v8 w8 ho8 hg8 hat8; have hbC : Below wt.heap.size wt (wt.drew.alloc (.cells #[.slice A' l.length c'] 37)) := (by exact bel); have hX8 : w8.cell? ⟨X, 1, none⟩ = some (.int .i64 co') := hg8.cell ((hbC.cell (p := ⟨X, 1, none⟩) x2).trans x1) hXn9; have hb8 : Below w6.heap.size w6 w8 := Below.grown (hbvw.trans (hbC.mono zvw)) hg8 (Nat.le_trans zvw hbC.size) (fun g h => (HOP.out.m.lt g h).1); have z8 := hb8.size; have OP8 : Hid (OpW w8 w6.heap.size (LR ++ [lnL l o l.length]) LB (.slice A8 k c8) v8 (xs ++ [.slice A' (lnL l o l.length).length c'])) := Lib.hid (OpW.pushM (HOP.out.up hbC) HZq.out (factsAt_up HFq.out hbC) (fun p hp => (match HSB.out p hp with | ⟨⟨cur, u, h5⟩, h6⟩ => ⟨⟨cur, u, (hbC.block _ (blk_lt h5)).trans h5⟩, h6⟩)) (by rw [Hl1.out]; exact ho8) hg8); obtain ⟨A28, c28, rfl⟩ := own_shapeL ho8 (show LR.length + 1 = k + 1 by rw [HLRl.out]); clear ho8 hg8 hat8)
       refine hK.out _ _ (Or.inr hX8) (fun hG7 => wpN ?_); clear hK hG6
       refine wpAnyG_ready (rs := [7]) (by kernel_rfl) (by simp) (AllG.cons rfl hG7 (fun K hK => ?_) AllG.nil)
       (go_simp; go_at_call 70; refine (KW.out _ _).mono ?_; rintro e w9 ⟨rfl, hb9⟩; have OP9 := Lib.hid (OP8.out.up hb9); have hb19 := hb8.trans (hb9.mono z8); have z19 := hb19.size; clear hb9)
       refine hK.out _ _ (Or.inl rfl) (fun hG8 => wpN ?_); clear hK hG7
       refine wpAnyG_ready (rs := [8]) (by kernel_rfl) (by simp) (AllG.cons rfl hG8 (fun K hK => ?_) AllG.nil)
       (go_simp)
       refine hK.out _ _ (Or.inl rfl) (fun hG9 => wpN ?_); clear hK hG8
       refine wpAnyG_ready (rs := [9]) (by kernel_rfl) (by simp) (AllG.cons rfl hG9 (fun K hK => ?_) AllG.nil)
       (refine step_append_src (by rfl) _ _ 37 (by rfl) w6.heap.size 45 inf (.agg #[.int .i64 0, .int .i64 0]) 2 16 undC hi iz0 iz1 iz2 rfl (by decide) (.slice A8 k c8) LB.length (fc LB) (by rfl) (by exact own_below OP9.out.b ((Below.refl _ _).alloc (Nat.le_refl _) _)) (some ⟨w9.heap.size, 0, none⟩) 1 1 [.int .i64 co', .int .i64 1] (by rfl) (src_ofS (T := 45) (by exact heap_alloc_new _ _) rfl (two_one rfl rfl)) (by unfold maxLen; have := HLBl.out; omega) (by have := HLBl.out; omega) (by first | (simp; done) | (simp; omega)) ?_; intro v10 w10 ho10 hg10 hat10; have OP10 : Hid (OpW w10 w6.heap.size (LR ++ [lnL l o l.length]) (LB ++ [(co', 1)]) v10 (.slice A28 (k + 1) c28) (xs ++ [.slice A' (lnL l o l.length).length c'])) := Lib.hid (OpW.pushB (OP9.out.up ((Below.refl _ _).alloc (Nat.le_refl _) _)) ho10 hg10 hat10); have hb20 : Below w6.heap.size w6 w10 := Below.grown (hb19.alloc z19 _) hg10 (by simp; omega) (fun g h => (OP9.out.b.lt g h).1); obtain ⟨A30, c30, rfl⟩ := own_shapeL ho10 (show LB.length + 1 = k + 1 by rw [HLBl.out]); clear ho10 hg10 hat10)
       refine hK.out _ _ (Or.inl rfl) (fun hG10 => wpN ?_); clear hK hG9
       refine wpS1 10 hG10 ?_; intro hG11; clear hG10
       refine wpS1 11 hG11 ?_; intro hG12; clear hG11
       refine wpAnyG_done (by kernel_rfl) ?_ _; clear hG12
       go_wp2
       go_roundw
       case rel => exact ⟨k + 1, A30, A28, c30, c28, _, by omega, by go_num, rfl, rfl, by rw [HLRs.out, HLBs.out]; exact OP10, hb20⟩
       case measure => simp [intOf]; omega
    ·obtain rfl : kl.length = k := by omega
     obtain ⟨LR, hLR⟩ : ∃ LR, LR = opR l kl := ⟨_, rfl⟩
     obtain ⟨LB, hLB⟩ : ∃ LB, LB = opB costs kl := ⟨_, rfl⟩
     rw [List.take_length, ← hLR, ← hLB] at hop
     have HLRl := Lib.hid (show LR.length = kl.length by rw [hLR, opR_len])
     have HLBl := Lib.hid (show LB.length = kl.length by rw [hLB, opB_len])
     have HLR := Lib.hid hLR
     have HLB := Lib.hid hLB
     obtain ⟨Am, cm, em, hM⟩ := mx_of_own hop.out.m hop.out.sls (by have := HLRl.out; omega)
     obtain ⟨Ab, cb, eb, _, hB⟩ := own_fracs hop.out.b (by have := HLBl.out; omega)
     injection em with em1 em2 em3
     injection eb with eb1 eb2 eb3
     subst em1 eb1
     have Bv := B6.trans (hbel.mono z6)
     have zvv := Bv.size
     have KS := Lib.hid (by have := solve_any (onL l.length) LR LB A' A9 A8 c' c9 c8 wv (factsAt_up HFo6.out hbel) hM hB; rw [onL_len, HLRl.out, HLBl.out] at this; exact this : Calls Tryz.prog 72 #[.slice A' l.length c', .slice A9 kl.length c9, .slice A8 kl.length c8] wv fun e w' => SolRet (onL l.length) LR LB e w' ∧ Below wv.heap.size wv w')
     clear hLR hLB em2 em3 eb2 eb3 hM hB hop
     go_wp2_with fail
     refine KS.out.mono ?_
     rintro e w7 ⟨hs, hb7⟩
     have B7 := Bv.trans (hb7.mono zvv)
     have z7 := B7.size
     clear hb7
     have HC0 : chk37 (onL l.length) LR LB = 0 := by rw [HLR.out, HLB.out, HKL.out]; exact opt_chk G.out hn
     rcases hs with ⟨hne, _⟩ | ⟨h0, ⟨cd, hf, he⟩ | ⟨T, hf, bx, bY, he, hx, _⟩⟩
     ·exact absurd HC0 hne
     ·obtain rfl := he
      rw [onL_len, HLRl.out, HLR.out, HLB.out, HKL.out] at hf
      have HF := Lib.hid (show ∀ w', PoRet costs l (.returned (.tuple #[.slice none 0 0, .iface 49 (.int .i64 cd)])) w' from fun w' => .inr ⟨E0.out, .inl ⟨cd, hf, rfl⟩⟩)
      clear hf h0 HC0
      go_wp2
      refine bodyPost_ret (v := .tuple #[.slice none 0 0, .iface 49 (.int .i64 cd)]) (by simp [results, Tryz.results39, go_sem]) rfl ⟨HF.out _, by exact bel⟩
     ·rw [onL_len, HLRl.out] at he
      subst he
      rw [onL_len, HLRl.out, HLR.out, HLB.out, HKL.out] at hf
      rw [onL_len, HLRl.out] at hx
      have HF := Lib.hid (show ∀ w', FrRow w' bx l.length (xB kl.length T) → PoRet costs l (.returned (.tuple #[.slice (some ⟨bx, 0, none⟩) l.length l.length, .nilIface])) w' from fun w' hx' => .inr ⟨E0.out, .inr ⟨T, bx, hf, rfl, by rw [HKL.out] at hx'; exact hx'⟩⟩)
      have HX := Lib.hid hx
      clear hf h0 HC0 hx
      go_wp2
      refine bodyPost_ret (v := .tuple #[.slice (some ⟨bx, 0, none⟩) l.length l.length, .nilIface]) (by simp [results, Tryz.results39, go_sem]) rfl ⟨HF.out _ (HX.out.up ((Below.refl _ _).alloc (Nat.le_refl _) _)), by exact bel⟩

end Go.Proofs.YtaampjhdgeoicaaGreat

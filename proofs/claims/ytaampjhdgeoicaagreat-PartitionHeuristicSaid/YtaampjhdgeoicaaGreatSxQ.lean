/- simplex: slices.Clone of fractions; the parts that begin lays, one by one. -/
import Derived.Test.YtaampjhdgeoicaaGreatMfA
import Derived.Test.YtaampjhdgeoicaaGreatSxC
import Derived.Lib.BufferMore
namespace Go.Proofs.YtaampjhdgeoicaaGreat
set_option linter.unusedSimpArgs false
set_option linter.unusedVariables false
open Go Go.RowKit
set_option linter.unusedVariables false

theorem fc_at {l : List (Int × Int)} {j : Nat} {u : Value} (h : (fc l)[j]? = some u) : ∃ k, k < l.length ∧ ((j = k * 2 ∧ u = .int .i64 (fv l k)) ∨ (j = k * 2 + 1 ∧ u = .int .i64 (fx l k))) := by
 have hj : j < l.length * 2 := by have := (List.getElem?_eq_some_iff.1 h).1; rwa [fc_len] at this
 refine ⟨j / 2, by omega, ?_⟩
 obtain ⟨h1, h2⟩ := fc_get l (j / 2) (by omega)
 by_cases e : j % 2 = 0
 ·rw [show j / 2 * 2 = j by omega, h] at h1
  exact .inl ⟨by omega, by injection h1⟩
 ·rw [show j / 2 * 2 + 1 = j by omega, h] at h2
  exact .inr ⟨by omega, by injection h2⟩
theorem fracs_cells {w : World} {B : Nat} {ad : Addr} {l : List (Int × Int)} (h : FactsAt w B (some ad) l) : ∀ j u, (fc l)[j]? = some u → w.cell? (ad.add j) = some u := fun j u hj => by
 obtain ⟨k, hk, hu⟩ := fc_at hj
 obtain ⟨b, off, e2, _, hc⟩ := h.2 (by omega)
 cases e2
 rcases hu with ⟨rfl, rfl⟩ | ⟨rfl, rfl⟩
 ·have h1 := (hc k hk).1
  simp [Addr.add]
  split
  ·rename_i h0; have : k = 0 := by omega
   subst this; simpa using h1
  ·simpa using h1
 ·have h1 := (hc k hk).2
  simpa [Addr.add, Nat.add_assoc] using h1

set_option maxRecDepth 4000 in
set_option maxHeartbeats 1000000 in
theorem cloneR_any (l : List (Int × Int)) (A : Option Addr) (c : Nat) (w : World) (h : FactsAt w w.heap.size A l) (hs : l.length ≤ 1000000) :
  Calls Tryz.prog 113 #[.slice A l.length c] w fun e w' => (∃ v, e = .returned v ∧ w'.ownsRow w.heap.size 45 2 v l.length (fc l)) ∧ Below w.heap.size w w' := by
 obtain ⟨inf, hi, hz0, hz1, hz2⟩ := info_parts infoC
 have hA : A = none → l = [] := fun e => by
  rcases Nat.eq_zero_or_pos l.length with h0 | h0
  ·exact List.length_eq_zero_iff.1 h0
  ·obtain ⟨b, off, e2, _⟩ := h.2 h0; rw [e] at e2; cases e2
 cases A with
 | none =>
  obtain rfl := hA rfl
  have heq : ∀ w', (binOp .eql 37 (.slice none ([] : List (Int × Int)).length c) (.slice none 0 0)).run Tryz.prog w' = .ok (.bool true) w' := fun w' => Lib.run_eql_slice_nil_nil w' _ c undC
  simp only [List.length_nil] at heq ⊢
  go_enter Tryz.func113, Tryz.ntmps113
  go_wp2
  go_ret
  exact ⟨⟨_, rfl, World.ownsRow_nil _ _ _ _⟩, by exact bel⟩
 | some ad =>
  have Hn := Lib.hid (show ∀ o : Obj, ∀ j u, (fc l)[j]? = some u → (w.alloc o).cell? (ad.add j) = some u from fun o => fracs_cells (h.keep (fun _ hp => ((Below.refl _ _).alloc (Nat.le_refl _) o).cell hp) ((Below.refl w.heap.size w).alloc (Nat.le_refl _) o).size))
  clear hA
  have heq : ∀ w', (binOp .eql 37 (.slice (some ad) l.length c) (.slice none 0 0)).run Tryz.prog w' = .ok (.bool false) w' := fun w' => Lib.run_eql_slice_some_nil w' ad _ c undC
  go_enter Tryz.func113, Tryz.ntmps113
  go_wp2_with (at_builtin; refine wpList_append_own _ rfl _ _ 37 rfl w.heap.size 45 inf (.agg #[.int .i64 0, .int .i64 0]) 2 16 undC hi hz0 hz1 hz2 rfl (by decide) _ 0 [] rfl (World.ownsRow_made w #[] 0 (Nat.le_refl _) (by simp [maxLen]) rfl) ad l.length c (fc l) rfl (fc_len l) (Hn.out _) fc_one (by unfold maxLen; omega) (by omega) (by simp) ?_; intro v' w1 hown' hgrow _; simp only [Nat.zero_add, List.nil_append] at hown'; have hb1 : Below w.heap.size w w1 := grown_below2 (s := 2) (Below.alloc (Below.refl _ _) (Nat.le_refl _) _) (Nat.le_refl _) (World.ownsRow_made w #[] 0 (Nat.le_refl _) (by simp [maxLen]) rfl) hgrow; have Hown := Lib.hid hown'; clear hgrow hown')
  go_ret
  exact ⟨⟨_, rfl, Hown.out⟩, hb1⟩

/-- The cells of the struct under way. -/
def bxf (n m : Nat) (v2 v3 v4 v5 : Value) : Nat → Value
 | 0 => .int .i64 n
 | 1 => .int .i64 m
 | 2 => v2
 | 3 => v3
 | 4 => v4
 | 5 => v5
 | 6 => .int .i64 0
 | _ => .int .i64 1
def Bx (w : World) (X n m : Nat) (v2 v3 v4 v5 : Value) : Prop := rowGe w X 169 8 (bxf n m v2 v3 v4 v5)
section
variable {w w' : World} {X n m B s k : Nat} {e : TypeId} {v v2 v3 v4 v5 : Value} {xs : List Value}
theorem Bx.new (w : World) (n m : Nat) (v2 v3 v4 v5 : Value) : Bx (w.alloc (.cells #[.int .i64 n, .int .i64 m, v2, v3, v4, v5, .int .i64 0, .int .i64 1] 169)) w.heap.size n m v2 v3 v4 v5 :=
 ⟨_, heap_alloc_new _ _, by simp, fun i hi => by rcases i with _ | _ | _ | _ | _ | _ | _ | _ | i <;> first | rfl | omega⟩
theorem Bx.c0 (h : Bx w X n m v2 v3 v4 v5) : w.cell? ⟨X, 0, none⟩ = some (.int .i64 n) := rowGe.cell h (i := 0) (by decide)
theorem Bx.c2 (h : Bx w X n m v2 v3 v4 v5) : w.cell? ⟨X, 2, none⟩ = some v2 := rowGe.cell h (i := 2) (by decide)
theorem Bx.c4 (h : Bx w X n m v2 v3 v4 v5) : w.cell? ⟨X, 4, none⟩ = some v4 := rowGe.cell h (i := 4) (by decide)
theorem Bx.c5 (h : Bx w X n m v2 v3 v4 v5) : w.cell? ⟨X, 5, none⟩ = some v5 := rowGe.cell h (i := 5) (by decide)
theorem Bx.fz (h : Bx w X n m v2 v3 v4 v5) (i : Nat) : w.frozen? ⟨X, i, none⟩ = false := rowGe.frozen h i
theorem Bx.lt (h : Bx w X n m v2 v3 v4 v5) : X < w.heap.size := rowGe.lt h
theorem Bx.up (h : Bx w X n m v2 v3 v4 v5) (hb : Below w.heap.size w w') : Bx w' X n m v2 v3 v4 v5 := rowGe.up h hb
theorem Bx.grown (h : Bx w X n m v2 v3 v4 v5) (ho : w.ownsRow B e s v k xs) (hg : w.grownBy w' v.ownBlock) (hne : 169 ≠ e) : Bx w' X n m v2 v3 v4 v5 := rowGe.grown h hg (rowGe.ne h ho hne)
theorem Bx.set2 (h : Bx w X n m v2 v3 v4 v5) (u : Value) : Bx (w.setCell ⟨X, 2, none⟩ u) X n m u v3 v4 v5 := (rowGe.set h 2 u).congr fun i hi => by rcases i with _ | _ | _ | _ | _ | _ | _ | _ | i <;> first | rfl | omega
theorem Bx.set4 (h : Bx w X n m v2 v3 v4 v5) (u : Value) : Bx (w.setCell ⟨X, 4, none⟩ u) X n m v2 v3 u v5 := (rowGe.set h 4 u).congr fun i hi => by rcases i with _ | _ | _ | _ | _ | _ | _ | _ | i <;> first | rfl | omega
theorem Bx.set5 (h : Bx w X n m v2 v3 v4 v5) (u : Value) : Bx (w.setCell ⟨X, 5, none⟩ u) X n m v2 v3 v4 u := (rowGe.set h 5 u).congr fun i hi => by rcases i with _ | _ | _ | _ | _ | _ | _ | _ | i <;> first | rfl | omega
theorem own_put (h : w.ownsRow B e s v k xs) {p : Addr} (hp : some p.block ≠ v.ownBlock) (u : Value) : (w.setCell p u).ownsRow B e s v k xs := by
 rcases h.2 with ⟨rfl, h0⟩ | ⟨g, cap, cur, rfl, hb, hg, hh⟩
 ·exact ⟨h.1, .inl ⟨rfl, h0⟩⟩
 ·have hne : g ≠ p.block := fun h => hp (by rw [← h]; rfl)
  exact ⟨h.1, .inr ⟨g, cap, cur, rfl, hb, (Below.heap_setCell _ _ _ _ (by omega)).trans hg, hh⟩⟩
theorem Bx.put (h : Bx w X n m v2 v3 v4 v5) (ho : w.ownsRow B e s v k xs) (hne : 169 ≠ e) (i : Nat) (u : Value) : (w.setCell ⟨X, i, none⟩ u).ownsRow B e s v k xs := own_put ho (p := ⟨X, i, none⟩) (show some X ≠ v.ownBlock from rowGe.ne h ho hne) u
theorem own_apt3 {B1 B2 s1 s2 n1 n2 : Nat} {e1 e2 : TypeId} {v1 v2 : Value} {x1 x2 : List Value} (h1 : w.ownsRow B1 e1 s1 v1 n1 x1) (h2 : w.ownsRow B2 e2 s2 v2 n2 x2) (hne : e1 ≠ e2) : v1.ownBlock = none ∨ v1.ownBlock ≠ v2.ownBlock := by
 rcases h1.2 with ⟨rfl, _⟩ | ⟨g, cap, cur, rfl, _, hg, _⟩
 ·exact .inl rfl
 ·rcases h2.2 with ⟨rfl, _⟩ | ⟨g', cap', cur', rfl, _, hg', _⟩
  ·exact .inr (fun e => by cases e)
  ·refine .inr fun e => ?_
   have e3 : g = g' := by simpa [Value.ownBlock] using e
   rw [e3, hg'] at hg
   injection hg with hg
   injection hg with _ ht
   exact hne ht.symm
theorem Kw.grown {lo hi : Nat} {W : World} (h : Kw lo hi W w) (ho : w.ownsRow B e s v k xs) (hg : w.grownBy w' v.ownBlock) (hB : W.heap.size ≤ B) : Kw lo hi W w' :=
 ⟨hg.os.trans h.os, hg.tape.trans h.tape, hg.output.trans h.output, Nat.le_trans h.size hg.size, fun i hi hn => (hg.block i (Nat.lt_of_lt_of_le hi h.size) fun e => by have := (ho.lt i e.symm).1; omega).trans (h.block i hi hn)⟩
end
/-- What the lists become. -/
def gl (c : List (Int × Int)) (k : Nat) : List (Int × Int) := c ++ List.replicate k (0, 1)
def rwl (l : List (Int × Int)) (i k : Nat) : List (Int × Int) := l ++ (List.range k).map fun j => if j = i then (1, 1) else (0, 1)
section
variable {c l : List (Int × Int)} {i j k : Nat}
theorem gl_succ : gl c (k + 1) = gl c k ++ [(0, 1)] := by unfold gl; rw [List.replicate_succ', List.append_assoc]
theorem gl_len : (gl c k).length = c.length + k := by unfold gl; simp
theorem gl_zero : gl c 0 = c := by unfold gl; simp
theorem rwl_succ : rwl l i (k + 1) = rwl l i k ++ [if k = i then (1, 1) else (0, 1)] := by unfold rwl; rw [List.range_succ, List.map_append, List.append_assoc]; rfl
theorem rwl_len : (rwl l i k).length = l.length + k := by unfold rwl; simp
theorem rwl_zero : rwl l i 0 = l := by unfold rwl; simp
theorem gl_lo (h : j < c.length) : fv (gl c k) j = fv c j ∧ fx (gl c k) j = fx c j := by unfold gl fv fx; simp [List.getD, List.getElem?_append_left h]
theorem gl_hi (h : c.length ≤ j) (h2 : j < c.length + k) : fv (gl c k) j = 0 ∧ fx (gl c k) j = 1 := by
 unfold gl fv fx
 have h3 : j - c.length < k := by omega
 simp [List.getD, List.getElem?_append_right h, List.getElem?_replicate, h3]
theorem rwl_lo (h : j < l.length) : fv (rwl l i k) j = fv l j ∧ fx (rwl l i k) j = fx l j := by unfold rwl fv fx; simp [List.getD, List.getElem?_append_left h]
theorem rwl_hi (h : l.length ≤ j) (h2 : j < l.length + k) : fv (rwl l i k) j = (if j - l.length = i then 1 else 0) ∧ fx (rwl l i k) j = 1 := by
 unfold rwl fv fx
 have h3 : j - l.length < k := by omega
 simp only [List.getD, List.getElem?_append_right h, List.getElem?_map, List.getElem?_range h3, Option.map_some, Option.getD_some]
 split <;> exact ⟨rfl, rfl⟩
end
/-- A list of fractions of the call's own holds these numbers. -/
def NumsOf (l : List (Int × Int)) (N : Nat) (f : Nat → Rat) : Prop := l.length = N ∧ ∀ j, j < N → (f j).num = fv l j ∧ ((f j).den : Int) = fx l j
theorem own_fr {w : World} {B N : Nat} {v : Value} {l : List (Int × Int)} {f : Nat → Rat} (h : w.ownsRow B 45 2 v l.length (fc l)) (hf : NumsOf l N f) : ∃ A c, v = .slice A N c ∧ (0 < N → ∃ g, A = some ⟨g, 0, none⟩ ∧ B ≤ g ∧ FrRow w g N f) := by
 obtain ⟨rfl, hf⟩ := hf
 rcases h.2 with ⟨rfl, h0⟩ | ⟨g, cap, cur, rfl, hb, hg, hnc, hcm, hcs, htk⟩
 ·exact ⟨none, 0, by rw [h0], fun hp => absurd hp (by omega)⟩
 ·refine ⟨_, cap, rfl, fun _ => ⟨g, rfl, hb, cur, hg, by omega, fun i hi => ?_⟩⟩
  have h1 : (fc l)[i]? = some (frc f i) := by
   have h2 := fc_get l (i / 2) (by omega)
   have h3 := hf (i / 2) (by omega)
   unfold frc
   by_cases e : i % 2 = 0
   ·rw [if_pos e, h3.1, ← h2.1, show i / 2 * 2 = i by omega]
   ·rw [if_neg e, h3.2, ← h2.2, show i / 2 * 2 + 1 = i by omega]
  rw [← htk, List.getElem?_take, if_pos (by omega)] at h1
  simpa using h1
theorem nums_rl {l : List (Int × Int)} (h : prL l = true) : NumsOf l l.length (rl l) := ⟨rfl, fun j hj => rl_num (prL_iff.1 h j hj)⟩
theorem nums_gl {c : List (Int × Int)} (h : prL c = true) (m : Nat) : NumsOf (gl c m) (c.length + m) (fun j => if j < c.length then rl c j else 0) := ⟨gl_len, fun j hj => by
 dsimp only
 by_cases e : j < c.length
 ·rw [if_pos e, (gl_lo e).1, (gl_lo e).2]; exact rl_num (prL_iff.1 h j e)
 ·rw [if_neg e, (gl_hi (by omega) hj).1, (gl_hi (by omega) hj).2]; exact ⟨rfl, rfl⟩⟩
theorem nums_rwl {l : List (Int × Int)} (h : prL l = true) {i m : Nat} : NumsOf (rwl l i m) (l.length + m) (fun j => if j < l.length then rl l j else if j = l.length + i then 1 else 0) := ⟨rwl_len, fun j hj => by
 dsimp only
 by_cases e : j < l.length
 ·rw [if_pos e, (rwl_lo e).1, (rwl_lo e).2]; exact rl_num (prL_iff.1 h j e)
 ·rw [if_neg e, (rwl_hi (by omega) hj).1, (rwl_hi (by omega) hj).2]
  by_cases e2 : j = l.length + i
  ·rw [if_pos e2, if_pos (by omega)]; exact ⟨rfl, rfl⟩
  ·rw [if_neg e2, if_neg (by omega)]; exact ⟨rfl, rfl⟩⟩
theorem chk_zero {c : List (Int × Int)} {R : List (List (Int × Int))} {b : List (Int × Int)} (h : chk37 c R b = 0) : c.length ≤ 24 ∧ R.length ≤ 24 ∧ R.length = b.length ∧ (∀ i, i < R.length → (mr R i).length = c.length) ∧ prL c = true ∧ prL b = true ∧ (∀ i, i < R.length → prL (mr R i) = true) ∧ ∀ i, i < b.length → 0 ≤ fv b i := by
 unfold chk37 at h
 split at h
 ·omega
 split at h
 ·omega
 split at h
 ·omega
 split at h
 ·omega
 split at h
 ·omega
 split at h
 ·omega
 rename_i h1 h2 h3 h4 h5 h6
 simp only [Bool.or_eq_true, Bool.not_eq_true', not_or] at h4
 refine ⟨by omega, by omega, by omega, fun i hi => ?_, by simpa using h4.1, by simpa using h4.2, fun i hi => ?_, fun i hi => ?_⟩
 ·exact Classical.byContradiction fun hn => h3 (anyB_true.2 ⟨i, hi, decide_eq_true hn⟩)
 ·cases e : prL (mr R i)
  ·exact absurd (anyB_true.2 ⟨i, hi, by rw [e]; rfl⟩) h5
  ·rfl
 ·exact Classical.byContradiction fun hn => h6 (anyB_true.2 ⟨i, hi, decide_eq_true (by omega)⟩)

end Go.Proofs.YtaampjhdgeoicaaGreat

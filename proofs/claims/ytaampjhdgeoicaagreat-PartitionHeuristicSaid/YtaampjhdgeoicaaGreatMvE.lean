/- Texts laid together: LmY, LmCa, LmR, LmCb, CutD, LmCu, LmCv. -/
import Derived.Test.YtaampjhdgeoicaaGreatMfA
import Derived.Test.YtaampjhdgeoicaaGreatLmE
import Derived.Test.YtaampjhdgeoicaaGreatCmpt
import Derived.Test.YtaampjhdgeoicaaGreatLmD
import Derived.Test.YtaampjhdgeoicaaGreatMtA
import Derived.Test.YtaampjhdgeoicaaGreatMfC
namespace Go.Proofs.YtaampjhdgeoicaaGreat
set_option linter.unusedSimpArgs false
set_option linter.unusedVariables false
section
open Go Go.RowKit
set_option linter.unusedVariables false

end

section
open Go Go.RowKit
set_option linter.unusedVariables false

/-- Does an entry of the list achieve the fact? -/
noncomputable def unA (t : Tsk) (s : List Int) (f : Int × Int) (u : Un) : Bool := decide ((u.var, u.val) = f) && hsM u.needs (rcB t s f)
/-- The operators of the entries that achieve the fact. -/
noncomputable def clA (t : Tsk) (s : List Int) (f : Int × Int) (l : List Un) : List Int := (l.filter (unA t s f)).map fun u => (u.op : Int)
section
variable {t : Tsk} {s : List Int} {f : Int × Int}
theorem clA_app (a b : List Un) : clA t s f (a ++ b) = clA t s f a ++ clA t s f b := by unfold clA; rw [List.filter_append, List.map_append]
theorem unA_mk (k j : Nat) : unA t s f (mkU t k j) = acE t s f k j := by
 unfold unA acE
 show (decide ((_, _) = f) && hsM (_ ++ _) _) = _
 rw [hsM_app]
 rfl
theorem clA_step (k j : Nat) : clA t s f (usK t k (j + 1)) = clA t s f (usK t k j) ++ (if acE t s f k j then [(k : Int)] else []) := by
 rw [usK_succ, clA_app]
 congr 1
 unfold clA
 rw [List.filter_cons, unA_mk]
 cases acE t s f k j <;> simp [mkU]
theorem cl_inv (k : Nat) (base : Lib.compact (clA t s f (usN t k)) = achN t s f k) (lo : ∀ x ∈ clA t s f (usN t k), x < (k : Int)) : ∀ j,
  Lib.compact (clA t s f (usK t k j)) = achN t s f k ++ (if anyB j (acE t s f k) then [(k : Int)] else []) ∧
  (anyB j (acE t s f k) = true → (clA t s f (usK t k j)).getLast? = some (k : Int)) ∧
  (anyB j (acE t s f k) = false → clA t s f (usK t k j) = clA t s f (usN t k)) ∧ (∀ x ∈ clA t s f (usK t k j), x < (k : Int) + 1)
 | 0 => ⟨by rw [usK_zero, base]; simp [anyB_zero], fun h => by simp [anyB_zero] at h, fun _ => by rw [usK_zero], fun x hx => by rw [usK_zero] at hx; have := lo x hx; omega⟩
 | j + 1 => by
  obtain ⟨h1, h2, h3, h4⟩ := cl_inv k base lo j
  have ea : anyB (j + 1) (acE t s f k) = (anyB j (acE t s f k) || acE t s f k j) := anyB_succ _ _
  rw [clA_step]
  cases e : acE t s f k j
  ·simp only [e, Bool.or_false] at ea
   rw [ea]
   simpa using ⟨h1, h2, h3, h4⟩
  ·simp only [e, Bool.or_true] at ea
   rw [ea]
   simp only [ite_true]
   refine ⟨?_, fun _ => by simp, (fun h => by cases h), fun x hx => ?_⟩
   ·rw [compact_snoc, h1]
    cases e2 : anyB j (acE t s f k)
    ·rw [h3 e2]
     have : (clA t s f (usN t k)).getLast? ≠ some (k : Int) := fun hh => by
      have := lo _ (List.mem_of_getLast? hh)
      omega
     simp [this]
    ·rw [h2 e2]; simp
   ·rcases List.mem_append.1 hx with h | h
    ·exact h4 x h
    ·simp at h; omega
theorem cl_row : ∀ k, Lib.compact (clA t s f (usN t k)) = achN t s f k ∧ ∀ x ∈ clA t s f (usN t k), x < (k : Int)
 | 0 => ⟨rfl, fun x hx => by simp [clA, usN] at hx⟩
 | k + 1 => by
  obtain ⟨h1, h2⟩ := cl_row k
  obtain ⟨a1, _, _, a4⟩ := cl_inv k h1 h2 (opr t.ops k).effs.length
  rw [usK_end] at a1 a4
  refine ⟨?_, fun x hx => by have := a4 x hx; push_cast; exact this⟩
  rw [a1]
  cases e : anyB (opr t.ops k).effs.length (acE t s f k)
  ·rw [achN_no (by unfold acB; exact e)]; simp
  ·rw [achN_yes (by unfold acB; exact e)]; simp
/-- What Compact makes of the list is the achievers. -/
theorem cl_ach : Lib.compact (clA t s f (us t)) = ach t s f := (cl_row t.ops.length).1
theorem clA_len (l : List Un) : (clA t s f l).length ≤ l.length := by unfold clA; rw [List.length_map]; exact List.length_filter_le _ _
theorem clT_yes {l : List Un} {k : Nat} (h : k < l.length) (e : unA t s f (un l k) = true) : clA t s f (l.take (k + 1)) = clA t s f (l.take k) ++ [((un l k).op : Int)] := by
 rw [List.take_succ_eq_append_getElem h, clA_app]
 congr 1
 have : l[k] = un l k := by unfold un; simp [List.getD, List.getElem?_eq_getElem h]
 unfold clA
 rw [this, List.filter_cons, e]; rfl
theorem clT_no {l : List Un} {k : Nat} (h : k < l.length) (e : unA t s f (un l k) = false) : clA t s f (l.take (k + 1)) = clA t s f (l.take k) := by
 rw [List.take_succ_eq_append_getElem h, clA_app]
 have : l[k] = un l k := by unfold un; simp [List.getD, List.getElem?_eq_getElem h]
 have e2 : clA t s f [l[k]] = [] := by unfold clA; rw [this, List.filter_cons, e]; rfl
 rw [e2, List.append_nil]
end

set_option maxRecDepth 100000 in
set_option maxHeartbeats 8000000 in
theorem achs_any (t : Tsk) (q : LiesF) (G : Nat) (s : List Int) (AS : Option Addr) (cs : Nat) (a : Int × Int) (w : World) (hF : FindAt w G t q) (hs : IntsAt w w.heap.size AS s) (hst : stB t.vars s = true) (hr : Right t) :
  Calls Tryz.prog 32 #[.pointer (some ⟨G, 0, none⟩), .slice AS s.length cs, .agg #[.int .i64 a.1, .int .i64 a.2]] w fun e w' => (∃ v, e = .returned v ∧ GotI2 w' w.heap.size v (ach t s a)) ∧ Below w.heap.size w w' := by
 have K1 := Lib.hid (fun wx (hb : Below w.heap.size w wx) => reached_any t q G s AS cs a wx (hF.up hb) (hs.up hb) hst hr)
 have HR := Lib.hid hr
 have hul := usN_len (t := t) (fun k hk => hr.ne k hk) t.ops.length (Nat.le_refl _)
 have hul2 : (us t).length ≤ 262144 := by have := hr.no; have h := hul; show (usN t t.ops.length).length ≤ _; omega
 clear hr hst hul
 obtain ⟨inf, hi, iz0, iz1, iz2⟩ := info_parts infoI8
 obtain ⟨av, ag, ac, au, cv, cg, cc, cu⟩ := q
 obtain ⟨q0, q1, q2, q3, q4, q5, q6, q7, q8⟩ := hF
 dsimp only at *
 have HU := Lib.hid q8
 clear q1 q2 q3 q5 q6 q7 q8
 go_enter Tryz.func32, Tryz.ntmps32
 go_wp2_with fail
 refine (K1.out _ (by exact bel)).mono ?_
 rintro e w1 ⟨⟨g, rb, rfl, hm⟩, hb1⟩
 have hbw1 : Below w.heap.size w w1 := (show Below w.heap.size w (w.alloc (.cells #[.int .i64 a.1, .int .i64 a.2] 75)) by exact bel).trans (hb1.mono (by simp))
 have z1 := hbw1.size
 have c0 : w1.cell? ⟨w.heap.size, 0, none⟩ = some (.int .i64 a.1) := (hb1.cell (p := ⟨w.heap.size, 0, none⟩) (by simp)).trans (by simp)
 have c1 : w1.cell? ⟨w.heap.size, 1, none⟩ = some (.int .i64 a.2) := (hb1.cell (p := ⟨w.heap.size, 1, none⟩) (by simp)).trans (by simp)
 have z2 : w.heap.size < w1.heap.size := by have := hb1.size; simp at this; omega
 have d3 := (hbw1.cell (p := ⟨G, 3, none⟩) q0).trans q4
 have gG : G < w1.heap.size := by omega
 have HM := Lib.hid hm
 obtain ⟨L, hL⟩ : ∃ L, L = us t := ⟨_, rfl⟩
 rw [← hL] at HU d3 hul2
 have HL := Lib.hid hL
 clear hm hb1 hL q4
 go_wp2
 go_loopw [8, 20] (fun v i wr => ∃ (k : Nat), k ≤ L.length ∧ i = .int .i64 k ∧ Hid (wr.ownsRow w1.heap.size 3 1 v (clA t s a (L.take k)).length (ic (clA t s a (L.take k)))) ∧ Below w1.heap.size w1 wr) (fun _ i _ => L.length - (intOf i).toNat)
 case atStart => exact ⟨0, by omega, rfl, Lib.hid (World.ownsRow_nil _ _ _ _), Below.refl _ _⟩
 case round =>
  obtain ⟨k, hk, rfl, hown, hbel⟩ := hrel
  have hbz := hbel.size
  have hbwr : Below w.heap.size w wr := hbw1.trans (hbel.mono z1)
  by_cases hlt : k < L.length
  ·obtain ⟨b1, eU, hb1, hc1⟩ := HU.out (by omega)
   subst eU
   obtain ⟨S, c, f0, f1, f2, f3, f4⟩ := hc1 k hlt
   have hmem : un L k ∈ us t := by rw [← HL.out]; exact un_mem hlt
   have hu := un_right HR.out hmem
   have d0 := (hbwr.cell (p := ⟨b1, k * 4, none⟩) hb1).trans f0
   have d1 := (hbwr.cell (p := ⟨b1, k * 4 + 1, none⟩) hb1).trans f1
   have d2 := (hbwr.cell (p := ⟨b1, k * 4 + 2, none⟩) hb1).trans f3
   have d4 := (hbwr.cell (p := ⟨b1, k * 4 + 3, none⟩) hb1).trans f4
   have g1 : b1 < wr.heap.size := by have := hbwr.size; omega
   have e0 := (hbel.cell (p := ⟨w.heap.size, 0, none⟩) (by show w.heap.size < _; omega)).trans c0
   have e1 := (hbel.cell (p := ⟨w.heap.size, 1, none⟩) (by show w.heap.size < _; omega)).trans c1
   have ge : w.heap.size < wr.heap.size := by omega
   have lneed := hu.len
   have lcl : (clA t s a (L.take k)).length ≤ 262144 := by have h1 := clA_len (t := t) (s := s) (f := a) (L.take k); have h2 := List.length_take_le k L; omega
   have k0 : (0 : Int) ≤ (k : Int) := by omega
   have k1 : (k : Int) < (L.length : Int) := by omega
   have KH := Lib.hid (fun wx (hb : Below wr.heap.size wr wx) => has_any t (un L k).needs (rcB t s a) (some ⟨g, 0, none⟩) S t.vars.length c g rb wx (fun _ => rfl) ((HM.out.up hbel).up hb) ((f2.up hbwr).up hb) hu.rng)
   have Hyes := Lib.hid (fun h => clT_yes (t := t) (s := s) (f := a) hlt h)
   have Hno := Lib.hid (fun h => clT_no (t := t) (s := s) (f := a) hlt h)
   clear hc1 f0 f1 f2 f3 f4 hmem hu
   by_cases ee : (un L k).var = a.1 ∧ (un L k).val = a.2
   ·have heql : ∀ w, (binOp .eql 75 (.agg #[.int .i64 (un L k).var, .int .i64 (un L k).val]) (.agg #[.int .i64 a.1, .int .i64 a.2])).run Tryz.prog w = .ok (.bool true) w := by intro w; simp [go_sem, ee.1, ee.2]
    have hpair : ((un L k).var, (un L k).val) = a := by rw [ee.1, ee.2]
    cases e2 : hsM (un L k).needs (rcB t s a)
    ·have Hs := Lib.hid (Hno.out (by unfold unA; rw [e2]; simp))
     rw [e2] at KH
     clear Hyes Hno ee hpair e2
     go_wp2_with fail
     refine (KH.out _ (by exact bel)).mono ?_
     rintro e w3 ⟨rfl, hb3⟩
     have hb4 := (show Below wr.heap.size wr (wr.alloc (.cells #[.int .i64 ((un L k).op : Int), .slice S (un L k).needs.length c, .int .i64 (un L k).var, .int .i64 (un L k).val] 82)) by exact bel).trans (hb3.mono (by simp))
     go_wp2
     go_roundw
     case rel => exact ⟨k + 1, by omega, by go_num, Lib.hid (by rw [Hs.out]; exact own_below hown.out hb4), hbel.trans (hb4.mono hbz)⟩
     case measure => simp [intOf]; omega
    ·have Hs := Lib.hid (Hyes.out (by unfold unA; rw [e2, hpair]; simp))
     rw [e2] at KH
     clear Hyes Hno ee hpair e2
     go_wp2_with fail
     refine (KH.out _ (by exact bel)).mono ?_
     rintro e w3 ⟨rfl, hb3⟩
     have hb4 := (show Below wr.heap.size wr (wr.alloc (.cells #[.int .i64 ((un L k).op : Int), .slice S (un L k).needs.length c, .int .i64 (un L k).var, .int .i64 (un L k).val] 82)) by exact bel).trans (hb3.mono (by simp))
     have hb14 := hbel.trans (hb4.mono hbz)
     have h0 : w3.cell? ⟨wr.heap.size, 0, none⟩ = some (.int .i64 ((un L k).op : Int)) := (hb3.cell (p := ⟨wr.heap.size, 0, none⟩) (by simp)).trans (by simp)
     have z3 : wr.heap.size < w3.heap.size := by have := hb3.size; simp at this; omega
     have Ho3 := Lib.hid (own_below hown.out hb4)
     have z14 := hb14.size
     clear hb3
     go_wp2_with (at_builtin; refine wpList_push rfl _ _ 22 rfl w1.heap.size 3 inf (.int .i64 0) 1 8 undI8 hi iz0 iz1 iz2 rfl (by decide) (by decide) u8 (clA t s a (L.take k)).length (ic (clA t s a (L.take k))) rfl (Ho3.out.alloc _) w3.heap.size 3 [.int .i64 ((un L k).op : Int)] rfl rfl (heap_alloc_new _ _) (one_one rfl) (by omega) (by first | omega | (simp; omega)) (B := w1.heap.size) (W := w1) (hb14.alloc z14 _) (Nat.le_refl _) ?_; intro v' w8 hown' hgrow hat hbw8; have Hown := Lib.hid hown'; clear hown' hgrow hat)
     go_roundw
     case rel => exact ⟨k + 1, by omega, by go_num, Lib.hid (by rw [Hs.out, List.length_append, ← ic_push]; exact Hown.out), hbw8⟩
     case measure => simp [intOf]; omega
   ·have heql : ∀ w, (binOp .eql 75 (.agg #[.int .i64 (un L k).var, .int .i64 (un L k).val]) (.agg #[.int .i64 a.1, .int .i64 a.2])).run Tryz.prog w = .ok (.bool false) w := by intro w; simp [go_sem]; omega
    have Hs := Lib.hid (Hno.out (by unfold unA; rw [decide_eq_false (fun e => ee ⟨congrArg Prod.fst e, congrArg Prod.snd e⟩)]; rfl))
    clear Hyes Hno ee KH
    go_wp2
    go_roundw
    case rel => exact ⟨k + 1, by omega, by go_num, Lib.hid (by rw [Hs.out]; exact hown.out.alloc _), hbel.alloc hbz _⟩
    case measure => simp [intOf]; omega
  ·obtain rfl : k = L.length := by omega
   have hx : clA t s a (L.take L.length) = clA t s a (us t) := by rw [List.take_length, HL.out]
   have Hown := Lib.hid (show wr.ownsRow w1.heap.size 3 1 u8 (clA t s a (us t)).length (ic (clA t s a (us t))) by rw [← hx]; exact hown.out)
   have Hlen := Lib.hid (show (clA t s a (us t)).length ≤ 1000000 by have h1 := clA_len (t := t) (s := s) (f := a) (us t); rw [HL.out] at hul2; omega)
   clear hown hx
   go_wp2_with fail
   refine (compact_any _ _ w1.heap.size _ Hown.out Hlen.out).mono ?_
   rintro e w3 ⟨⟨v3, rfl, hg3⟩, hb3⟩
   rw [cl_ach] at hg3
   have Hg3 := Lib.hid hg3
   clear hg3
   go_wp2
   go_ret
   exact ⟨⟨_, rfl, Hg3.out.mono z1⟩, hbwr.trans (hb3.mono z1)⟩
end

section
open Go Go.RowKit
set_option linter.unusedVariables false

/-- A table that is being gathered: k rows are there. -/
structure TabX (w : World) (B : Nat) (v : Value) (k : Nat) (rb L : Nat → Nat) (M : Nat → Nat → Bool) (xs : List Value) : Prop where
 own : w.ownsRow B 137 1 v k xs
 top : ∀ j, j < k → xs[j]? = some (.slice (some ⟨rb j, 0, none⟩) (L j) (L j))
 row : ∀ j, j < k → w.rowIs (rb j) 4 (L j) fun c => .bool (M j c)
 low : ∀ j, j < k → B ≤ rb j
 inj : ∀ i j, i < k → j < k → rb i = rb j → i = j
section
variable {w w' : World} {B k : Nat} {v v' : Value} {rb L : Nat → Nat} {M M' : Nat → Nat → Bool} {xs : List Value}
theorem TabX.nil (w : World) (B : Nat) (rb L : Nat → Nat) (M : Nat → Nat → Bool) : TabX w B (.slice none 0 0) 0 rb L M [] :=
 ⟨World.ownsRow_nil _ _ _ _, fun j hj => absurd hj (Nat.not_lt_zero _), fun j hj => absurd hj (Nat.not_lt_zero _), fun j hj => absurd hj (Nat.not_lt_zero _), fun i j hi => absurd hi (Nat.not_lt_zero _)⟩
theorem TabX.up (h : TabX w B v k rb L M xs) (hb : Below w.heap.size w w') : TabX w' B v k rb L M xs :=
 ⟨own_below h.own hb, h.top, fun j hj => row_up (h.row j hj) hb, h.low, h.inj⟩
theorem TabX.push (h : TabX w B v k rb L M xs) {H : Nat} (hH : w.rowIs H 4 (L k) fun _ => .bool false) (hM : ∀ c, M k c = false) (hB : B ≤ H) (hne : ∀ j, j < k → rb j ≠ H) (hg : w.grownBy w' v.ownBlock)
  (ho : w'.ownsRow B 137 1 v' (k + 1) (xs ++ [.slice (some ⟨H, 0, none⟩) (L k) (L k)])) : TabX w' B v' (k + 1) (fun j => if j = k then H else rb j) L M (xs ++ [.slice (some ⟨H, 0, none⟩) (L k) (L k)]) := by
 have hxl : xs.length = k := by have := h.own.1; simpa using this
 refine ⟨ho, fun j hj => ?_, fun j hj => ?_, fun j hj => ?_, fun i j hi hj e => ?_⟩
 ·by_cases e : j = k
  ·subst e
   rw [if_pos rfl, ← hxl, List.getElem?_append_right (Nat.le_refl _)]; simp
  ·rw [if_neg e, List.getElem?_append_left (by omega)]; exact h.top j (by omega)
 ·by_cases e : j = k
  ·subst e
   rw [if_pos rfl]
   exact (row_grown hH hg (row_own_ne hH h.own (by decide))).congr fun c _ => by rw [hM c]
  ·rw [if_neg e]
   exact row_grown (h.row j (by omega)) hg (row_own_ne (h.row j (by omega)) h.own (by decide))
 ·by_cases e : j = k
  ·rw [if_pos e]; exact hB
  ·rw [if_neg e]; exact h.low j (by omega)
 ·by_cases e1 : i = k <;> by_cases e2 : j = k
  ·omega
  ·rw [if_pos e1, if_neg e2] at e; exact absurd e.symm (hne j (by omega))
  ·rw [if_neg e1, if_pos e2] at e; exact absurd e (hne i (by omega))
  ·rw [if_neg e1, if_neg e2] at e; exact h.inj i j (by omega) (by omega) e
theorem TabX.put (h : TabX w B v k rb L M xs) {j u : Nat} (hj : j < k) : TabX (w.setCell ⟨rb j, u, none⟩ (.bool true)) B v k rb L (put2 M j u) xs := by
 refine ⟨own_set' h.own (fun e => ?_), h.top, fun i hi => ?_, h.low, h.inj⟩
 ·exact (row_own_ne (h.row j hj) h.own (by decide)) e.symm
 ·by_cases e : i = j
  ·subst e
   exact ((h.row i hi).set u _).congr fun c hc => by unfold put2; by_cases e : c = u <;> simp [e]
  ·refine ((h.row i hi).setOther (fun e2 => e (h.inj i j hi hj e2)) _).congr fun c hc => ?_
   unfold put2
   have : (i == j) = false := by simp; omega
   rw [this]; simp
theorem TabX.congr (h : TabX w B v k rb L M xs) (e : ∀ j, j < k → ∀ c, M j c = M' j c) : TabX w B v k rb L M' xs :=
 ⟨h.own, h.top, fun j hj => (h.row j hj).congr fun c _ => by rw [e j hj c], h.low, h.inj⟩
theorem TabX.drew (h : TabX w B v k rb L M xs) : TabX w.drew B v k rb L M xs := ⟨h.own, h.top, h.row, h.low, h.inj⟩
theorem TabX.done (h : TabX w B v k rb L M xs) {g0 : Nat} (hg0 : g0 < w.heap.size) (hg1 : ∀ j, j < k → rb j ≠ g0) : ∃ A c g, v = .slice A k c ∧ (0 < k → A = some ⟨g, 0, none⟩) ∧ MatIs w g k rb L M := by
 rcases h.own.2 with ⟨rfl, h0⟩ | ⟨g, cap, cur, rfl, hb, hg, hnc, hcm, hcs, htk⟩
 ·exact ⟨none, 0, g0, by rw [h0], fun hp => absurd hp (by omega), hg0, fun j hj => absurd hj (by omega), fun j hj => absurd hj (by omega), fun i j hi => absurd hi (by omega), fun j hj => absurd hj (by omega)⟩
 ·refine ⟨some ⟨g, 0, none⟩, cap, g, rfl, fun _ => rfl, (Array.getElem?_eq_some_iff.1 hg).1, fun j hj => ?_, h.row, h.inj, fun j hj e => ?_⟩
  ·have h1 := h.top j hj
   rw [← htk, List.getElem?_take, if_pos (by omega)] at h1
   have h2 := cell_of_row w g j cur 137 (0, 0) hg
   rw [show cur[j]? = some (.slice (some ⟨rb j, 0, none⟩) (L j) (L j)) by simpa using h1] at h2
   exact h2
  ·have := row_own_ne (h.row j hj) h.own (by decide)
   exact this (by rw [e]; rfl)
end
def ClK (t : Tsk) (a : Int × Int) (M : Nat → Nat → Bool) (k j : Nat) : Prop := ∀ k' j', ((k' < k ∧ j' < (opr t.ops k').effs.length) ∨ (k' = k ∧ j' < j)) → efF t k' j' ≠ a → hsM (opr t.ops k').pre M = true → hsM (eff (opr t.ops k').effs j').whn M = true → M (efF t k' j').1.toNat (efF t k' j').2.toNat = true
section
variable {t : Tsk} {a : Int × Int} {M : Nat → Nat → Bool}
theorem clK_zero : ClK t a M 0 0 := fun k' j' h => by omega
theorem clK_row {k : Nat} (h : ClK t a M k (opr t.ops k).effs.length) : ClK t a M (k + 1) 0 := fun k' j' hh => by
 refine h k' j' ?_
 rcases hh with ⟨h1, h2⟩ | ⟨_, h2⟩
 ·by_cases e : k' = k
  ·subst e; exact .inr ⟨rfl, h2⟩
  ·exact .inl ⟨by omega, h2⟩
 ·omega
theorem clK_step {k j : Nat} (h : ClK t a M k j) (hn : efF t k j ≠ a → hsM (opr t.ops k).pre M = true → hsM (eff (opr t.ops k).effs j).whn M = true → M (efF t k j).1.toNat (efF t k j).2.toNat = true) : ClK t a M k (j + 1) := fun k' j' hh => by
 rcases hh with h1 | ⟨rfl, h2⟩
 ·exact h k' j' (.inl h1)
 ·by_cases e : j' = j
  ·subst e; exact hn
  ·exact h k' j' (.inr ⟨rfl, by omega⟩)
theorem clK_end (h : ClK t a M t.ops.length 0) : ClosM t a M := fun k hk j hj => h k j (.inl ⟨hk, hj⟩)
end
def RReaRet (t : Tsk) (s : List Int) (a : Int × Int) (e : Ending) (w' : World) : Prop :=
 ∃ A c g rb, e = .returned (.slice A t.vars.length c) ∧ (0 < t.vars.length → A = some ⟨g, 0, none⟩) ∧ MatIs w' g t.vars.length rb (Ld t) (rcB t s a)

set_option maxRecDepth 100000 in
set_option maxHeartbeats 16000000 in
theorem rreach_any (t : Tsk) (p : Lies) (s : List Int) (AS : Option Addr) (cs : Nat) (a1 a2 : Int) (w : World) (ht : TaskAt w w.heap.size t p) (hs : IntsAt w w.heap.size AS s) (hst : stB t.vars s = true) (hr : Right t) :
  Calls Tryz.prog 76 #[TaskV t p, .slice AS s.length cs, .agg #[.int .i64 a1, .int .i64 a2]] w fun e w' => RReaRet t s (a1, a2) e w' ∧ Below w.heap.size w w' := by
 have n64 := hr.nv
 have o64 := hr.no
 have HR := Lib.hid hr
 have Hst := Lib.hid (show StP t.vars s by unfold stB at hst; simpa using hst)
 have Hsn : Hid (s.length = t.vars.length) := Lib.hid Hst.out.1
 obtain ⟨av, ai, ag, ao, cv, ci, cg, co⟩ := p
 unfold TaskV
 dsimp only
 clear hr hst
 obtain ⟨inb, hib, bz0, bz1, bz2⟩ := info_parts infoBs
 go_enter Tryz.func76, Tryz.ntmps76
 go_wp2
 go_loopw [7, 18] (fun v i wr => ∃ (k : Nat) (rb : Nat → Nat) (xs : List Value), k ≤ t.vars.length ∧ i = .int .i64 k ∧ Hid (TabX wr (w.heap.size + 2) v k rb (Ld t) (stM s k) xs) ∧ Boxed wr w.heap.size t ⟨av, ai, ag, ao, cv, ci, cg, co⟩ ∧ wr.cell? ⟨w.heap.size + 1, 0, none⟩ = some (.int .i64 a1) ∧ wr.cell? ⟨w.heap.size + 1, 1, none⟩ = some (.int .i64 a2) ∧ Hid (w.heap.size + 2 ≤ wr.heap.size) ∧ Below w.heap.size w wr) (fun _ i _ => t.vars.length - (intOf i).toNat)
 case atStart => exact ⟨0, fun _ => 0, [], by omega, rfl, Lib.hid (TabX.nil _ _ _ _ _), by constructor <;> first | (simp; done) | (simp; omega), by simp, by simp, Lib.hid (by simp), by exact bel⟩
 case round =>
  obtain ⟨k, rb, xs, hk, rfl, htab, hbox, ha0, ha1, hsz, hbel⟩ := hrel
  obtain ⟨z0, y0, y1, y2, y3⟩ := id hbox
  dsimp only at y0 y1 y2 y3
  have hsz2 := hsz.out
  have hbz := hbel.size
  by_cases hlt : k < t.vars.length
  ·obtain ⟨b1, o1, ea, hb1, hc1⟩ := ht.vars.at_ hlt
   dsimp only at ea
   subst ea
   have d1 := (hbel.cell (p := ⟨b1, o1 + k, none⟩) hb1).trans (hc1 k hlt)
   obtain ⟨b2, o2, eb, hb2, hc2⟩ := hs.at_ (show k < s.length by have := Hsn.out; omega)
   subst eb
   have d2 := (hbel.cell (p := ⟨b2, o2 + k, none⟩) hb2).trans (hc2 k (by have := Hsn.out; omega))
   have hd := HR.out.dom k hlt
   obtain ⟨m, hm⟩ : ∃ m : Nat, nth t.vars k = (m : Int) := ⟨(nth t.vars k).toNat, by omega⟩
   have hsk := Hst.out.2 k (by have := Hsn.out; omega)
   obtain ⟨x, hx⟩ : ∃ x : Nat, nth s k = (x : Int) := ⟨(nth s k).toNat, by omega⟩
   have hLk : Ld t k = m := by unfold Ld; rw [hm]; simp
   have hxk : (nth s k).toNat = x := by rw [hx]; simp
   have hmk2 := run_make_row' (P := Tryz.prog) 137 4 (.bool false) 1 undB infoB rfl .i64 .i64 m (by omega) (by omega)
   rw [hm] at d1 hsk hd
   rw [hx] at d2 hsk
   have hxm : x < m := by omega
   have Hxk := Lib.hid hxk
   have HLk := Lib.hid hLk
   have g1 : b1 < wr.heap.size := by omega
   have g2 : b2 < wr.heap.size := by omega
   clear hc1 hc2 hm hx hxk hLk
   have k0 : (0 : Int) ≤ (k : Int) := by omega
   have k1 : (k : Int) < (t.vars.length : Int) := by omega
   have k2 : (k : Int) < (s.length : Int) := by have := Hsn.out; omega
   have x0 : (0 : Int) ≤ (x : Int) := by omega
   have x1 : (x : Int) < (m : Int) := by omega
   have HW0 : Hid (Below wr.heap.size wr ((wr.alloc (.cells (madeCells #[.bool false] m) 4)).alloc (.cells #[.slice (some ⟨wr.heap.size, 0, none⟩) m m] 137))) := Lib.hid (((Below.refl _ _).alloc (Nat.le_refl _) _).alloc (by simp) _)
   have HH : Hid (((wr.alloc (.cells (madeCells #[.bool false] m) 4)).alloc (.cells #[.slice (some ⟨wr.heap.size, 0, none⟩) m m] 137)).rowIs wr.heap.size 4 m fun _ => .bool false) := Lib.hid ((World.rowIs_made wr (.bool false) m 4).alloc _)
   go_wp2_with (at_builtin; refine wpList_push rfl _ _ 117 rfl (w.heap.size + 2) 137 inb (.slice none 0 0) 1 24 undBs hib bz0 bz1 bz2 rfl (by decide) (by decide) u7 k xs rfl (own_below htab.out.own HW0.out) (wr.heap.size + 1) 137 [.slice (some ⟨wr.heap.size, 0, none⟩) m m] rfl rfl (by have := heap_alloc_new (wr.alloc (.cells (madeCells #[.bool false] m) 4)) (.cells #[.slice (some ⟨wr.heap.size, 0, none⟩) m m] 137); rw [World.size_alloc] at this; exact this) (one_one rfl) (by omega) (by simp; omega) (B := w.heap.size + 2) (W := wr) (HW0.out.mono hsz2) (Nat.le_refl _) ?_; intro v6 w6 hown6 hgrow6 hat6 hb6; have htx := (htab.out.up HW0.out).push (H := wr.heap.size) (by rw [HLk.out]; exact HH.out) (fun c => by unfold stM; simp) hsz2 (fun j hj => by have := (htab.out.row j hj).lt; omega) hgrow6 (by rw [HLk.out]; exact hown6); have hz6 := hgrow6.size; simp only [World.size_alloc] at hz6; obtain ⟨g, cap, rfl, hgl, hg⟩ := own_form htx.own (Nat.succ_pos _); have u1 := (htx.own.cellAt k (by omega)).trans (htx.top k (Nat.lt_succ_self _)); have hr6 := htx.row k (Nat.lt_succ_self _); have Htx := Lib.hid htx; clear htx hown6 hgrow6 hat6)
   simp only [↓reduceIte] at u1 hr6
   rw [HLk.out] at u1 hr6
   have u2 := hr6.cell hxm
   have u3 := hr6.frozen x
   have u4 := hr6.lt
   have u5 : w6.cell? ⟨b2, o2 + k, none⟩ = some (.int .i64 (x : Int)) := (hb6.cell (p := ⟨b2, o2 + k, none⟩) (by show b2 < _; omega)).trans d2
   have v6b := hbox.low hb6 (by omega)
   have a6 := (hb6.cell (p := ⟨w.heap.size + 1, 0, none⟩) (Nat.lt_succ_self _)).trans ha0
   have a7 := (hb6.cell (p := ⟨w.heap.size + 1, 1, none⟩) (Nat.lt_succ_self _)).trans ha1
   have hb6w := hbel.trans (hb6.mono (show w.heap.size ≤ w.heap.size + 2 by omega))
   have kz : (k : Int) < ((k + 1 : Nat) : Int) := by omega
   have kz2 : (k : Int) < (k : Int) + 1 := by omega
   go_wp2_with fail
   refine wp_region_G 9 (fun w' => w'.cell? ⟨g, k, none⟩ = some (.slice (some ⟨wr.heap.size, 0, none⟩) m m) ∧ w'.cell? ⟨b2, o2 + k, none⟩ = some (.int .i64 (x : Int))) (by kernel_rfl) (⟨u1, u5⟩) ?_
   intro hG0
   refine wpS1 0 hG0 ?_; intro hG1; clear hG0
   refine wpS1 1 hG1 ?_; intro hG2; clear hG1
   refine wpS1 2 hG2 ?_; intro hG3; clear hG2
   refine wpS2 3 hG3 ?_; intro hG4; clear hG3
   refine wpS1 4 hG4 ?_; intro hG5; clear hG4
   refine wpS1 5 hG5 ?_; intro hG6; clear hG5
   refine wpS1 6 hG6 ?_; intro hG7; clear hG6
   refine wpS2 7 hG7 ?_; intro hG8; clear hG7
   refine wpS1 8 hG8 ?_; intro hG9; clear hG8
   refine wpAnyG_ready (rs := [9]) (by kernel_rfl) (by simp) (AllG.cons rfl hG9 (fun K hK => ?_) AllG.nil)
   (go_simp)
   refine hK.out _ _ (Or.inl rfl) (fun hG10 => wpN ?_); clear hK hG9
   refine wpAnyG_done (by kernel_rfl) ?_ _; clear hG10
   have hput := Htx.out.drew.put (j := k) (u := x) (Nat.lt_succ_self k)
   simp only [↓reduceIte] at hput
   have Hput := Lib.hid (hput.congr (M' := stM s (k + 1)) fun j hj c => by rw [← Hxk.out]; exact stM_put j hj c)
   have hle : w.heap.size + 2 ≤ w6.heap.size := by omega
   clear hput
   go_wp2
   go_roundw
   case rel => exact ⟨k + 1, _, _, by omega, by go_num, Hput.out, ⟨by have := v6b.lt; simpa [World.setCell] using this, (World.cell?_setCell_other _ _ _ _ (by first | (simp; done) | (simp; omega))).trans v6b.c0, (World.cell?_setCell_other _ _ _ _ (by first | (simp; done) | (simp; omega))).trans v6b.c1, (World.cell?_setCell_other _ _ _ _ (by first | (simp; done) | (simp; omega))).trans v6b.c2, (World.cell?_setCell_other _ _ _ _ (by first | (simp; done) | (simp; omega))).trans v6b.c3⟩, (World.cell?_setCell_other _ _ _ _ (by first | (simp; done) | (simp; omega))).trans a6, (World.cell?_setCell_other _ _ _ _ (by first | (simp; done) | (simp; omega))).trans a7, Lib.hid (by show w.heap.size + 2 ≤ (World.setCell _ _ _).heap.size; simpa [World.setCell] using hle), (hb6w.drew).setCell (p := ⟨wr.heap.size, x, none⟩) (by show w.heap.size ≤ wr.heap.size; omega) _⟩
   case measure => simp [intOf]; omega
  ·obtain rfl : k = t.vars.length := by omega
   obtain ⟨A, cA, g, hv7, hA, hmat0⟩ := htab.out.done (g0 := w.heap.size) (by omega) (fun j hj => by have := htab.out.low j hj; omega)
   subst hv7
   have hmat := hmat0.congr (M' := fun v x => x == (nth s v).toNat) fun j hj c _ => by unfold stM; simp [hj]
   have hrc : RcI t s (a1, a2) (fun v x => x == (nth s v).toNat) := rc_start
   obtain ⟨M0, hM0⟩ : ∃ M0 : Nat → Nat → Bool, M0 = fun v x => x == (nth s v).toNat := ⟨_, rfl⟩
   rw [← hM0] at hmat hrc
   obtain ⟨wa, rfl⟩ : ∃ wa : World, wa = wr := ⟨_, rfl⟩
   have Hrc := Lib.hid hrc
   have Hlow := Lib.hid (fun j hj => htab.out.low j hj)
   have HA := Lib.hid hA
   have ga : w.heap.size + 2 ≤ wa.heap.size := hsz2
   have hrlt := Lib.hid (fun j hj => (hmat0.row j hj).lt)
   clear htab hmat0 hM0 hrc hA hlt hk
   go_wp2
   go_loopg [10] (2 * cnt2 M0 (Ld t) t.vars.length + 1) (fun gg c wr => ∃ (M : Nat → Nat → Bool) (ch : Bool), gg = 2 * cnt2 M (Ld t) t.vars.length + (if ch then 1 else 0) ∧ c = .bool ch ∧ MatIs wr g t.vars.length rb (Ld t) M ∧ Hid (RcI t s (a1, a2) M) ∧ Hid (ch = false → ClK t (a1, a2) M t.ops.length 0) ∧ Kp (w.heap.size + 2) wa.heap.size wa wr)
   case atStart => exact ⟨M0, true, rfl, rfl, hmat, Hrc, Lib.hid (fun h => by cases h), Kp.refl _ _ _⟩
   case round =>
    clear hmat Hrc z0 y0 y1 y2 y3
    obtain ⟨M, ch, hgk, rfl, hmat, hrc, hcl, hkp⟩ := hrel
    have Hgk := Lib.hid hgk
    clear hgk
    have kz := hkp.size
    have hbx := hbox.low (hkp.below (B := w.heap.size + 2) (Nat.le_refl _) (by omega)) (by omega)
    obtain ⟨z0, y0, y1, y2, y3⟩ := id hbx
    dsimp only at y0 y1 y2 y3
    cases ch
    ·have Hm := Lib.hid (hmat.congr (M' := rcB t s (a1, a2)) fun j hj c hc => rc_end hrc.out (clK_end (hcl.out rfl)) j hj c hc)
     have hbl : Below w.heap.size w wr := hbel.trans (hkp.below (B := w.heap.size) (by omega) (by omega))
     clear hmat hkp
     go_wp2
     go_ret
     exact ⟨⟨A, cA, g, rb, rfl, HA.out, Hm.out⟩, hbl⟩
    ·obtain ⟨w5, rfl⟩ : ∃ w5 : World, w5 = wr := ⟨_, rfl⟩
     go_wp2
     go_loopw [10, 42] (fun c i wr => ∃ (k : Nat) (M' : Nat → Nat → Bool) (ch : Bool), k ≤ t.ops.length ∧ i = .int .i64 k ∧ c = .bool ch ∧ MatIs wr g t.vars.length rb (Ld t) M' ∧ Hid (RcI t s (a1, a2) M') ∧ Hid (ch = false → ClK t (a1, a2) M' k 0) ∧ Hid (cnt2 M' (Ld t) t.vars.length ≤ cnt2 M (Ld t) t.vars.length) ∧ Hid (ch = true → cnt2 M' (Ld t) t.vars.length < cnt2 M (Ld t) t.vars.length) ∧ Kp (w.heap.size + 2) wa.heap.size wa wr) (fun _ i _ => t.ops.length - (intOf i).toNat)
     case atStart => exact ⟨0, M, false, by omega, rfl, rfl, hmat, hrc, Lib.hid (fun _ => clK_zero), Lib.hid (Nat.le_refl _), Lib.hid (fun h => by cases h), hkp⟩
     case round =>
      clear hmat hrc hkp kz hcl z0 y0 y1 y2 y3 hbx
      obtain ⟨k, M1, ch, hk, rfl, rfl, hmat, hrc, hcl, hcn, hcs, hkp⟩ := hrel
      have kz := hkp.size
      have hbx := hbox.low (hkp.below (B := w.heap.size + 2) (Nat.le_refl _) (by omega)) (by omega)
      obtain ⟨z0, y0, y1, y2, y3⟩ := id hbx
      dsimp only at y0 y1 y2 y3
      obtain ⟨wb, rfl⟩ : ∃ wb : World, wb = wr := ⟨_, rfl⟩
      by_cases hlt : k < t.ops.length
      -- FILL
      ·obtain ⟨b, o, S, cS, T, d, ea, hb, n0, n1, n2, n3, f2, n4, e3⟩ := ht.ops.at2 (hbel.trans (hkp.below (B := w.heap.size) (by omega) (by omega))) hlt
       dsimp only at ea
       subst ea
       have g2 : b < wb.heap.size := by omega
       have j1 := f2.len
       have j2 := e3.len
       have npr := HR.out.np k hlt
       have nef := HR.out.ne k hlt
       go_wp2
       go_loopw [10, 49] (fun c i wr => ∃ (j : Nat) (M2 : Nat → Nat → Bool) (ch : Bool), j ≤ (opr t.ops k).effs.length ∧ i = .int .i64 j ∧ c = .bool ch ∧ MatIs wr g t.vars.length rb (Ld t) M2 ∧ Hid (RcI t s (a1, a2) M2) ∧ Hid (ch = false → ClK t (a1, a2) M2 k j) ∧ Hid (cnt2 M2 (Ld t) t.vars.length ≤ cnt2 M (Ld t) t.vars.length) ∧ Hid (ch = true → cnt2 M2 (Ld t) t.vars.length < cnt2 M (Ld t) t.vars.length) ∧ Kp (w.heap.size + 2) wa.heap.size (wb.alloc (.cells #[.string (opr t.ops k).name, .int .i64 (opr t.ops k).cost, .slice S (opr t.ops k).pre.length cS, .slice T (opr t.ops k).effs.length d] 55)) wr) (fun _ i _ => (opr t.ops k).effs.length - (intOf i).toNat)
       case atStart => exact ⟨0, M1, ch, by omega, rfl, rfl, hmat.alloc _, hrc, hcl, hcn, hcs, Kp.refl _ _ _⟩
       case round =>
        clear hmat hrc hcl hcn hcs z0 y0 y1 y2 y3 hbx n0 n1 n2 n3 n4
        obtain ⟨j, M2, ch, hj, rfl, rfl, hmat, hrc, hcl, hcn, hcs, hkp1⟩ := hrel
        have kz1 := hkp1.size
        simp only [World.size_alloc] at kz1
        have hkpr : Kp (w.heap.size + 2) wa.heap.size wa wr := (hkp.alloc _).trans hkp1
        have hbelr : Below w.heap.size w wr := hbel.trans (hkpr.below (B := w.heap.size) (by omega) (by omega))
        have hbzr := hbelr.size
        have p2 : wr.cell? ⟨wb.heap.size, 2, none⟩ = some (.slice S (opr t.ops k).pre.length cS) := (hkp1.cell (by simp) (.inr kz)).trans (by simp)
        have p3 : wr.cell? ⟨wb.heap.size, 3, none⟩ = some (.slice T (opr t.ops k).effs.length d) := (hkp1.cell (by simp) (.inr kz)).trans (by simp)
        have gp : wb.heap.size < wr.heap.size := kz1
        by_cases hltj : j < (opr t.ops k).effs.length
        ·obtain ⟨b', o', S', c', ea', hb', i0, f5, i1, i2⟩ := e3.at2 hbelr hltj
         subst ea'
         have g3 : b' < wr.heap.size := by omega
         have j3 := f5.len
         have nwh := HR.out.nw k hlt j hltj
         have hu := HR.out.eff k hlt j hltj
         have t0 := (hkpr.cell (p := ⟨w.heap.size + 1, 0, none⟩) (by show w.heap.size + 1 < _; omega) (.inl (Nat.lt_succ_self _))).trans ha0
         have t1 := (hkpr.cell (p := ⟨w.heap.size + 1, 1, none⟩) (by show w.heap.size + 1 < _; omega) (.inl (Nat.lt_succ_self _))).trans ha1
         have gw : w.heap.size + 1 < wr.heap.size := by omega
         obtain ⟨uv, huv⟩ : ∃ x : Nat, (eff (opr t.ops k).effs j).var = (x : Int) := ⟨(eff (opr t.ops k).effs j).var.toNat, by have := hu.1; omega⟩
         obtain ⟨ux, hux⟩ : ∃ x : Nat, (eff (opr t.ops k).effs j).val = (x : Int) := ⟨(eff (opr t.ops k).effs j).val.toNat, by have := hu.2.2.1; omega⟩
         have hvn : uv < t.vars.length := by have := hu.2.1; omega
         have hxl : ux < Ld t uv := by unfold Ld; have := hu.2.2.2; rw [huv, hux] at this; simp only [Int.toNat_natCast] at this; omega
         have Hef := Lib.hid (show efF t k j = ((uv : Int), (ux : Int)) by unfold efF; rw [huv, hux])
         rw [huv] at i1
         rw [hux] at i2
         obtain rfl := HA.out (by omega)
         clear hu huv hux
         have m1 := hmat.top uv hvn
         have m2 := hmat.cell hvn hxl
         have m3 := hmat.frozen ux hvn
         have m4 := hmat.rlt hvn
         have m5 := hmat.glt
         have j0 : (0 : Int) ≤ (j : Int) := by omega
         have j4 : (j : Int) < ((opr t.ops k).effs.length : Int) := by omega
         have v0 : (0 : Int) ≤ (uv : Int) := by omega
         have v1 : (uv : Int) < (t.vars.length : Int) := by omega
         have x0 : (0 : Int) ≤ (ux : Int) := by omega
         have x1 : (ux : Int) < (Ld t uv : Int) := by omega
         have r0 : w.heap.size + 2 ≤ rb uv := Hlow.out uv hvn
         have r1 : rb uv < wa.heap.size := hrlt.out uv hvn
         have KP := Lib.hid (fun wx (hb : Below (wr.alloc (.cells #[.slice S' (eff (opr t.ops k).effs j).whn.length c', .int .i64 (uv : Int), .int .i64 (ux : Int)] 80)).heap.size (wr.alloc (.cells #[.slice S' (eff (opr t.ops k).effs j).whn.length c', .int .i64 (uv : Int), .int .i64 (ux : Int)] 80)) wx) => rall_any t (opr t.ops k).pre M2 (some ⟨g, 0, none⟩) S cA cS g rb wx (fun _ => rfl) ((hmat.alloc _).up hb) (((f2.up hbelr).up ((Below.refl _ _).alloc (Nat.le_refl _) _)).up hb) (rng_fa (HR.out.pre k hlt)))
         have KW := Lib.hid (fun wx (hb : Below (wr.alloc (.cells #[.slice S' (eff (opr t.ops k).effs j).whn.length c', .int .i64 (uv : Int), .int .i64 (ux : Int)] 80)).heap.size (wr.alloc (.cells #[.slice S' (eff (opr t.ops k).effs j).whn.length c', .int .i64 (uv : Int), .int .i64 (ux : Int)] 80)) wx) => rall_any t (eff (opr t.ops k).effs j).whn M2 (some ⟨g, 0, none⟩) S' cA c' g rb wx (fun _ => rfl) ((hmat.alloc _).up hb) (((f5.up hbelr).up ((Below.refl _ _).alloc (Nat.le_refl _) _)).up hb) (rng_fa (HR.out.whn k hlt j hltj)))
         have HM := Lib.hid hmat
         have HK := Lib.hid hkp1
         clear hmat hkp1
         by_cases h1 : (uv : Int) = a1
         ·by_cases h2 : (ux : Int) = a2
          ·have Heq := Lib.hid (show efF t k j = (a1, a2) by rw [Hef.out, h1, h2])
           rw [← h1] at t0
           rw [← h2] at t1
           clear h1 h2
           have Hs := Lib.hid (show ch = false → ClK t (a1, a2) M2 k (j + 1) from fun hc => clK_step (hcl.out hc) (fun h => absurd Heq.out h))
           go_wp2_with fail
           refine wp_region_aft (by kernel_rfl) (by kernel_rfl) (by (try simp); exact rfl) ?_; intro haft; (repeat (go_big_quiet_step ((first | (go_at_call 75; with_reducible exact aft_of (KP.out _ (Aft.below _))) | (go_at_call 75; with_reducible exact aft_of (KW.out _ (Aft.below _))))))); refine wpQuiet_nil ?_; intro w7 hwx; have hb7 := aft_below hwx; clear hwx; obtain ⟨hc7, hf7, hz7, hlt7, hle7⟩ := cellsIf hb7 (by (try simp); exact rfl); (try have := s00 w w7); (try have := s01 w w7); (try have := s02 w w7); (try have := s10 w w7); (try have := s11 w w7); (try have := s12 w w7); (try have := s20 w w7); (try have := s21 w w7); (try have := s22 w w7); (try have := s00 w1 w7); (try have := s01 w1 w7); (try have := s02 w1 w7); (try have := s10 w1 w7); (try have := s11 w1 w7); (try have := s12 w1 w7); (try have := s20 w1 w7); (try have := s21 w1 w7); (try have := s22 w1 w7); (try have := s00 w2 w7); (try have := s01 w2 w7); (try have := s02 w2 w7); (try have := s10 w2 w7); (try have := s11 w2 w7); (try have := s12 w2 w7); (try have := s20 w2 w7); (try have := s21 w2 w7); (try have := s22 w2 w7); (try have := s00 w3 w7); (try have := s01 w3 w7); (try have := s02 w3 w7); (try have := s10 w3 w7); (try have := s11 w3 w7); (try have := s12 w3 w7); (try have := s20 w3 w7); (try have := s21 w3 w7); (try have := s22 w3 w7); (try have := s00 w4 w7); (try have := s01 w4 w7); (try have := s02 w4 w7); (try have := s10 w4 w7); (try have := s11 w4 w7); (try have := s12 w4 w7); (try have := s20 w4 w7); (try have := s21 w4 w7); (try have := s22 w4 w7); (try have := s00 w5 w7); (try have := s01 w5 w7); (try have := s02 w5 w7); (try have := s10 w5 w7); (try have := s11 w5 w7); (try have := s12 w5 w7); (try have := s20 w5 w7); (try have := s21 w5 w7); (try have := s22 w5 w7); (try have := s00 w6 w7); (try have := s01 w6 w7); (try have := s02 w6 w7); (try have := s10 w6 w7); (try have := s11 w6 w7); (try have := s12 w6 w7); (try have := s20 w6 w7); (try have := s21 w6 w7); (try have := s22 w6 w7); clear haft
           go_wp2
           go_roundw
           case rel => exact ⟨j + 1, M2, ch, by omega, by go_num, rfl, (HM.out.alloc _).up hb7, hrc, Hs, hcn, hcs, (HK.out.alloc _).up hb7⟩
           case measure => simp [intOf]; omega
          have Hne := Lib.hid (show ((uv : Int), (ux : Int)) ≠ (a1, a2) from fun e => h2 (congrArg Prod.snd e))
          rw [← h1] at t0
          clear h1
          have h3 : decide ((ux : Int) = a2) = false := by simpa using h2
          have h4 : ¬ a2 = (ux : Int) := fun e => h2 e.symm
          have h5 : ((ux : Int) == a2) = false := by simpa using h2
          have h6 : ((ux : Int) != a2) = true := by simpa using h2
          have hneq : ∀ w, (binOp .neq 3 (.int .i64 (ux : Int)) (.int .i64 a2)).run Tryz.prog w = .ok (.bool true) w := by intro w; simp [go_sem, h2]
          cases e2 : M2 uv ux
          case true =>
           rw [e2] at m2
           have Hs := Lib.hid (show ch = false → ClK t (a1, a2) M2 k (j + 1) from fun hc => clK_step (hcl.out hc) (fun _ _ _ => by rw [Hef.out]; simpa using e2))
           go_wp2_with fail
           refine wp_region_aft (by kernel_rfl) (by kernel_rfl) (by (try simp); exact rfl) ?_; intro haft; (repeat (go_big_quiet_step ((first | (go_at_call 75; with_reducible exact aft_of (KP.out _ (Aft.below _))) | (go_at_call 75; with_reducible exact aft_of (KW.out _ (Aft.below _))))))); refine wpQuiet_nil ?_; intro w7 hwx; have hb7 := aft_below hwx; clear hwx; obtain ⟨hc7, hf7, hz7, hlt7, hle7⟩ := cellsIf hb7 (by (try simp); exact rfl); (try have := s00 w w7); (try have := s01 w w7); (try have := s02 w w7); (try have := s10 w w7); (try have := s11 w w7); (try have := s12 w w7); (try have := s20 w w7); (try have := s21 w w7); (try have := s22 w w7); (try have := s00 w1 w7); (try have := s01 w1 w7); (try have := s02 w1 w7); (try have := s10 w1 w7); (try have := s11 w1 w7); (try have := s12 w1 w7); (try have := s20 w1 w7); (try have := s21 w1 w7); (try have := s22 w1 w7); (try have := s00 w2 w7); (try have := s01 w2 w7); (try have := s02 w2 w7); (try have := s10 w2 w7); (try have := s11 w2 w7); (try have := s12 w2 w7); (try have := s20 w2 w7); (try have := s21 w2 w7); (try have := s22 w2 w7); (try have := s00 w3 w7); (try have := s01 w3 w7); (try have := s02 w3 w7); (try have := s10 w3 w7); (try have := s11 w3 w7); (try have := s12 w3 w7); (try have := s20 w3 w7); (try have := s21 w3 w7); (try have := s22 w3 w7); (try have := s00 w4 w7); (try have := s01 w4 w7); (try have := s02 w4 w7); (try have := s10 w4 w7); (try have := s11 w4 w7); (try have := s12 w4 w7); (try have := s20 w4 w7); (try have := s21 w4 w7); (try have := s22 w4 w7); (try have := s00 w5 w7); (try have := s01 w5 w7); (try have := s02 w5 w7); (try have := s10 w5 w7); (try have := s11 w5 w7); (try have := s12 w5 w7); (try have := s20 w5 w7); (try have := s21 w5 w7); (try have := s22 w5 w7); (try have := s00 w6 w7); (try have := s01 w6 w7); (try have := s02 w6 w7); (try have := s10 w6 w7); (try have := s11 w6 w7); (try have := s12 w6 w7); (try have := s20 w6 w7); (try have := s21 w6 w7); (try have := s22 w6 w7); clear haft
           go_wp2
           go_roundw
           case rel => exact ⟨j + 1, M2, ch, by omega, by go_num, rfl, (HM.out.alloc _).up hb7, hrc, Hs, hcn, hcs, (HK.out.alloc _).up hb7⟩
           case measure => simp [intOf]; omega
          rw [e2] at m2
          cases e3 : hsM (opr t.ops k).pre M2
          case false =>
           rw [e3] at KP
           have Hs := Lib.hid (show ch = false → ClK t (a1, a2) M2 k (j + 1) from fun hc => clK_step (hcl.out hc) (fun _ h _ => by rw [e3] at h; cases h))
           go_wp2_with fail
           refine wp_region_aft (by kernel_rfl) (by kernel_rfl) (by (try simp); exact rfl) ?_; intro haft; (repeat (go_big_quiet_step ((first | (go_at_call 75; with_reducible exact aft_of (KP.out _ (Aft.below _))) | (go_at_call 75; with_reducible exact aft_of (KW.out _ (Aft.below _))))))); refine wpQuiet_nil ?_; intro w7 hwx; have hb7 := aft_below hwx; clear hwx; obtain ⟨hc7, hf7, hz7, hlt7, hle7⟩ := cellsIf hb7 (by (try simp); exact rfl); (try have := s00 w w7); (try have := s01 w w7); (try have := s02 w w7); (try have := s10 w w7); (try have := s11 w w7); (try have := s12 w w7); (try have := s20 w w7); (try have := s21 w w7); (try have := s22 w w7); (try have := s00 w1 w7); (try have := s01 w1 w7); (try have := s02 w1 w7); (try have := s10 w1 w7); (try have := s11 w1 w7); (try have := s12 w1 w7); (try have := s20 w1 w7); (try have := s21 w1 w7); (try have := s22 w1 w7); (try have := s00 w2 w7); (try have := s01 w2 w7); (try have := s02 w2 w7); (try have := s10 w2 w7); (try have := s11 w2 w7); (try have := s12 w2 w7); (try have := s20 w2 w7); (try have := s21 w2 w7); (try have := s22 w2 w7); (try have := s00 w3 w7); (try have := s01 w3 w7); (try have := s02 w3 w7); (try have := s10 w3 w7); (try have := s11 w3 w7); (try have := s12 w3 w7); (try have := s20 w3 w7); (try have := s21 w3 w7); (try have := s22 w3 w7); (try have := s00 w4 w7); (try have := s01 w4 w7); (try have := s02 w4 w7); (try have := s10 w4 w7); (try have := s11 w4 w7); (try have := s12 w4 w7); (try have := s20 w4 w7); (try have := s21 w4 w7); (try have := s22 w4 w7); (try have := s00 w5 w7); (try have := s01 w5 w7); (try have := s02 w5 w7); (try have := s10 w5 w7); (try have := s11 w5 w7); (try have := s12 w5 w7); (try have := s20 w5 w7); (try have := s21 w5 w7); (try have := s22 w5 w7); (try have := s00 w6 w7); (try have := s01 w6 w7); (try have := s02 w6 w7); (try have := s10 w6 w7); (try have := s11 w6 w7); (try have := s12 w6 w7); (try have := s20 w6 w7); (try have := s21 w6 w7); (try have := s22 w6 w7); clear haft
           go_wp2
           go_roundw
           case rel => exact ⟨j + 1, M2, ch, by omega, by go_num, rfl, (HM.out.alloc _).up hb7, hrc, Hs, hcn, hcs, (HK.out.alloc _).up hb7⟩
           case measure => simp [intOf]; omega
          cases e4 : hsM (eff (opr t.ops k).effs j).whn M2
          case false =>
           rw [e3] at KP
           rw [e4] at KW
           have Hs := Lib.hid (show ch = false → ClK t (a1, a2) M2 k (j + 1) from fun hc => clK_step (hcl.out hc) (fun _ _ h => by rw [e4] at h; cases h))
           go_wp2_with fail
           refine wp_region_aft (by kernel_rfl) (by kernel_rfl) (by (try simp); exact rfl) ?_; intro haft; (repeat (go_big_quiet_step ((first | (go_at_call 75; with_reducible exact aft_of (KP.out _ (Aft.below _))) | (go_at_call 75; with_reducible exact aft_of (KW.out _ (Aft.below _))))))); refine wpQuiet_nil ?_; intro w7 hwx; have hb7 := aft_below hwx; clear hwx; obtain ⟨hc7, hf7, hz7, hlt7, hle7⟩ := cellsIf hb7 (by (try simp); exact rfl); (try have := s00 w w7); (try have := s01 w w7); (try have := s02 w w7); (try have := s10 w w7); (try have := s11 w w7); (try have := s12 w w7); (try have := s20 w w7); (try have := s21 w w7); (try have := s22 w w7); (try have := s00 w1 w7); (try have := s01 w1 w7); (try have := s02 w1 w7); (try have := s10 w1 w7); (try have := s11 w1 w7); (try have := s12 w1 w7); (try have := s20 w1 w7); (try have := s21 w1 w7); (try have := s22 w1 w7); (try have := s00 w2 w7); (try have := s01 w2 w7); (try have := s02 w2 w7); (try have := s10 w2 w7); (try have := s11 w2 w7); (try have := s12 w2 w7); (try have := s20 w2 w7); (try have := s21 w2 w7); (try have := s22 w2 w7); (try have := s00 w3 w7); (try have := s01 w3 w7); (try have := s02 w3 w7); (try have := s10 w3 w7); (try have := s11 w3 w7); (try have := s12 w3 w7); (try have := s20 w3 w7); (try have := s21 w3 w7); (try have := s22 w3 w7); (try have := s00 w4 w7); (try have := s01 w4 w7); (try have := s02 w4 w7); (try have := s10 w4 w7); (try have := s11 w4 w7); (try have := s12 w4 w7); (try have := s20 w4 w7); (try have := s21 w4 w7); (try have := s22 w4 w7); (try have := s00 w5 w7); (try have := s01 w5 w7); (try have := s02 w5 w7); (try have := s10 w5 w7); (try have := s11 w5 w7); (try have := s12 w5 w7); (try have := s20 w5 w7); (try have := s21 w5 w7); (try have := s22 w5 w7); (try have := s00 w6 w7); (try have := s01 w6 w7); (try have := s02 w6 w7); (try have := s10 w6 w7); (try have := s11 w6 w7); (try have := s12 w6 w7); (try have := s20 w6 w7); (try have := s21 w6 w7); (try have := s22 w6 w7); clear haft
           go_wp2
           go_roundw
           case rel => exact ⟨j + 1, M2, ch, by omega, by go_num, rfl, (HM.out.alloc _).up hb7, hrc, Hs, hcn, hcs, (HK.out.alloc _).up hb7⟩
           case measure => simp [intOf]; omega
          rw [e3] at KP
          rw [e4] at KW
          have hmk := rc_mark HR.out hrc.out hlt hltj (by rw [Hef.out]; exact Hne.out) e3 e4
          rw [Hef.out] at hmk
          have Hmk := Lib.hid (show RcI t s (a1, a2) (put2 M2 uv ux) by simpa using hmk)
          have Hcc := Lib.hid (cnt2_put (n := t.vars.length) e2 hxl hvn)
          clear hmk
          go_wp2_with fail
          refine wp_region_aft (by kernel_rfl) (by kernel_rfl) (by (try simp); exact rfl) ?_; intro haft; (repeat (go_big_quiet_step ((first | (go_at_call 75; with_reducible exact aft_of (KP.out _ (Aft.below _))) | (go_at_call 75; with_reducible exact aft_of (KW.out _ (Aft.below _))))))); refine wpQuiet_nil ?_; intro w7 hwx; have hb7 := aft_below hwx; clear hwx; obtain ⟨hc7, hf7, hz7, hlt7, hle7⟩ := cellsIf hb7 (by (try simp); exact rfl); (try have := s00 w w7); (try have := s01 w w7); (try have := s02 w w7); (try have := s10 w w7); (try have := s11 w w7); (try have := s12 w w7); (try have := s20 w w7); (try have := s21 w w7); (try have := s22 w w7); (try have := s00 w1 w7); (try have := s01 w1 w7); (try have := s02 w1 w7); (try have := s10 w1 w7); (try have := s11 w1 w7); (try have := s12 w1 w7); (try have := s20 w1 w7); (try have := s21 w1 w7); (try have := s22 w1 w7); (try have := s00 w2 w7); (try have := s01 w2 w7); (try have := s02 w2 w7); (try have := s10 w2 w7); (try have := s11 w2 w7); (try have := s12 w2 w7); (try have := s20 w2 w7); (try have := s21 w2 w7); (try have := s22 w2 w7); (try have := s00 w3 w7); (try have := s01 w3 w7); (try have := s02 w3 w7); (try have := s10 w3 w7); (try have := s11 w3 w7); (try have := s12 w3 w7); (try have := s20 w3 w7); (try have := s21 w3 w7); (try have := s22 w3 w7); (try have := s00 w4 w7); (try have := s01 w4 w7); (try have := s02 w4 w7); (try have := s10 w4 w7); (try have := s11 w4 w7); (try have := s12 w4 w7); (try have := s20 w4 w7); (try have := s21 w4 w7); (try have := s22 w4 w7); (try have := s00 w5 w7); (try have := s01 w5 w7); (try have := s02 w5 w7); (try have := s10 w5 w7); (try have := s11 w5 w7); (try have := s12 w5 w7); (try have := s20 w5 w7); (try have := s21 w5 w7); (try have := s22 w5 w7); (try have := s00 w6 w7); (try have := s01 w6 w7); (try have := s02 w6 w7); (try have := s10 w6 w7); (try have := s11 w6 w7); (try have := s12 w6 w7); (try have := s20 w6 w7); (try have := s21 w6 w7); (try have := s22 w6 w7); clear haft
          have M7 := (HM.out.alloc (.cells #[.slice S' (eff (opr t.ops k).effs j).whn.length c', .int .i64 (uv : Int), .int .i64 (ux : Int)] 80)).up hb7
          have s1 := M7.top uv hvn
          have s2 := M7.cell hvn hxl
          have s3 := M7.frozen ux hvn
          have s4 := M7.rlt hvn
          have s5 := M7.glt
          have z7 := hb7.size
          simp only [World.size_alloc] at z7
          have s6 : w7.cell? ⟨wr.heap.size, 1, none⟩ = some (.int .i64 (uv : Int)) := (hb7.cell (p := ⟨wr.heap.size, 1, none⟩) (by simp)).trans (by simp)
          have s7 : w7.cell? ⟨wr.heap.size, 2, none⟩ = some (.int .i64 (ux : Int)) := (hb7.cell (p := ⟨wr.heap.size, 2, none⟩) (by simp)).trans (by simp)
          have s8 : wr.heap.size < w7.heap.size := z7
          have Hlt := Lib.hid (show cnt2 (put2 M2 uv ux) (Ld t) t.vars.length < cnt2 M (Ld t) t.vars.length by have := Hcc.out; have := hcn.out; omega)
          go_wp2_with fail
          refine wp_region_G 8 (fun w' => w'.cell? ⟨wr.heap.size, 1, none⟩ = some (.int .i64 (uv : Int)) ∧ w'.cell? ⟨wr.heap.size, 2, none⟩ = some (.int .i64 (ux : Int)) ∧ w'.cell? ⟨g, uv, none⟩ = some (.slice (some ⟨rb uv, 0, none⟩) (Ld t uv) (Ld t uv))) (by kernel_rfl) (⟨s6, s7, s1⟩) ?_
          intro hG0
          refine wpS1 0 hG0 ?_; intro hG1; clear hG0
          refine wpS1 1 hG1 ?_; intro hG2; clear hG1
          refine wpS2 2 hG2 ?_; intro hG3; clear hG2
          refine wpS1 3 hG3 ?_; intro hG4; clear hG3
          refine wpS2 4 hG4 ?_; intro hG5; clear hG4
          refine wpS1 5 hG5 ?_; intro hG6; clear hG5
          refine wpS2 6 hG6 ?_; intro hG7; clear hG6
          refine wpS1 7 hG7 ?_; intro hG8; clear hG7
          refine wpAnyG_ready (rs := [8]) (by kernel_rfl) (by simp) (AllG.cons rfl hG8 (fun K hK => ?_) AllG.nil)
          (go_simp)
          refine hK.out _ _ (Or.inl rfl) (fun hG9 => wpN ?_); clear hK hG8
          refine wpS1 9 hG9 ?_; intro hG10; clear hG9
          refine wpAnyG_done (by kernel_rfl) ?_ _; clear hG10
          go_wp2
          go_roundw
          case rel => exact ⟨j + 1, put2 M2 uv ux, true, by omega, by go_num, rfl, MatIs.put_true (M7.drew) hvn (fun _ _ _ _ => rfl), Hmk, Lib.hid (fun h => by cases h), Lib.hid (by have := Hlt.out; omega), Lib.hid (fun _ => Hlt.out), (((HK.out.alloc _).up hb7).drew).set (p := ⟨rb uv, ux, none⟩) r0 r1 _⟩
          case measure => simp [intOf]; omega
         ·have Hne := Lib.hid (show ((uv : Int), (ux : Int)) ≠ (a1, a2) from fun e => h1 (congrArg Prod.fst e))
          have h3 : decide ((uv : Int) = a1) = false := by simpa using h1
          have h4 : ¬ a1 = (uv : Int) := fun e => h1 e.symm
          have h5 : ((uv : Int) == a1) = false := by simpa using h1
          have h6 : ((uv : Int) != a1) = true := by simpa using h1
          have hneq : ∀ w, (binOp .neq 3 (.int .i64 (uv : Int)) (.int .i64 a1)).run Tryz.prog w = .ok (.bool true) w := by intro w; simp [go_sem, h1]
          cases e2 : M2 uv ux
          case true =>
           rw [e2] at m2
           have Hs := Lib.hid (show ch = false → ClK t (a1, a2) M2 k (j + 1) from fun hc => clK_step (hcl.out hc) (fun _ _ _ => by rw [Hef.out]; simpa using e2))
           go_wp2_with fail
           refine wp_region_aft (by kernel_rfl) (by kernel_rfl) (by (try simp); exact rfl) ?_; intro haft; (repeat (go_big_quiet_step ((first | (go_at_call 75; with_reducible exact aft_of (KP.out _ (Aft.below _))) | (go_at_call 75; with_reducible exact aft_of (KW.out _ (Aft.below _))))))); refine wpQuiet_nil ?_; intro w7 hwx; have hb7 := aft_below hwx; clear hwx; obtain ⟨hc7, hf7, hz7, hlt7, hle7⟩ := cellsIf hb7 (by (try simp); exact rfl); (try have := s00 w w7); (try have := s01 w w7); (try have := s02 w w7); (try have := s10 w w7); (try have := s11 w w7); (try have := s12 w w7); (try have := s20 w w7); (try have := s21 w w7); (try have := s22 w w7); (try have := s00 w1 w7); (try have := s01 w1 w7); (try have := s02 w1 w7); (try have := s10 w1 w7); (try have := s11 w1 w7); (try have := s12 w1 w7); (try have := s20 w1 w7); (try have := s21 w1 w7); (try have := s22 w1 w7); (try have := s00 w2 w7); (try have := s01 w2 w7); (try have := s02 w2 w7); (try have := s10 w2 w7); (try have := s11 w2 w7); (try have := s12 w2 w7); (try have := s20 w2 w7); (try have := s21 w2 w7); (try have := s22 w2 w7); (try have := s00 w3 w7); (try have := s01 w3 w7); (try have := s02 w3 w7); (try have := s10 w3 w7); (try have := s11 w3 w7); (try have := s12 w3 w7); (try have := s20 w3 w7); (try have := s21 w3 w7); (try have := s22 w3 w7); (try have := s00 w4 w7); (try have := s01 w4 w7); (try have := s02 w4 w7); (try have := s10 w4 w7); (try have := s11 w4 w7); (try have := s12 w4 w7); (try have := s20 w4 w7); (try have := s21 w4 w7); (try have := s22 w4 w7); (try have := s00 w5 w7); (try have := s01 w5 w7); (try have := s02 w5 w7); (try have := s10 w5 w7); (try have := s11 w5 w7); (try have := s12 w5 w7); (try have := s20 w5 w7); (try have := s21 w5 w7); (try have := s22 w5 w7); (try have := s00 w6 w7); (try have := s01 w6 w7); (try have := s02 w6 w7); (try have := s10 w6 w7); (try have := s11 w6 w7); (try have := s12 w6 w7); (try have := s20 w6 w7); (try have := s21 w6 w7); (try have := s22 w6 w7); clear haft
           go_wp2
           go_roundw
           case rel => exact ⟨j + 1, M2, ch, by omega, by go_num, rfl, (HM.out.alloc _).up hb7, hrc, Hs, hcn, hcs, (HK.out.alloc _).up hb7⟩
           case measure => simp [intOf]; omega
          rw [e2] at m2
          cases e3 : hsM (opr t.ops k).pre M2
          case false =>
           rw [e3] at KP
           have Hs := Lib.hid (show ch = false → ClK t (a1, a2) M2 k (j + 1) from fun hc => clK_step (hcl.out hc) (fun _ h _ => by rw [e3] at h; cases h))
           go_wp2_with fail
           refine wp_region_aft (by kernel_rfl) (by kernel_rfl) (by (try simp); exact rfl) ?_; intro haft; (repeat (go_big_quiet_step ((first | (go_at_call 75; with_reducible exact aft_of (KP.out _ (Aft.below _))) | (go_at_call 75; with_reducible exact aft_of (KW.out _ (Aft.below _))))))); refine wpQuiet_nil ?_; intro w7 hwx; have hb7 := aft_below hwx; clear hwx; obtain ⟨hc7, hf7, hz7, hlt7, hle7⟩ := cellsIf hb7 (by (try simp); exact rfl); (try have := s00 w w7); (try have := s01 w w7); (try have := s02 w w7); (try have := s10 w w7); (try have := s11 w w7); (try have := s12 w w7); (try have := s20 w w7); (try have := s21 w w7); (try have := s22 w w7); (try have := s00 w1 w7); (try have := s01 w1 w7); (try have := s02 w1 w7); (try have := s10 w1 w7); (try have := s11 w1 w7); (try have := s12 w1 w7); (try have := s20 w1 w7); (try have := s21 w1 w7); (try have := s22 w1 w7); (try have := s00 w2 w7); (try have := s01 w2 w7); (try have := s02 w2 w7); (try have := s10 w2 w7); (try have := s11 w2 w7); (try have := s12 w2 w7); (try have := s20 w2 w7); (try have := s21 w2 w7); (try have := s22 w2 w7); (try have := s00 w3 w7); (try have := s01 w3 w7); (try have := s02 w3 w7); (try have := s10 w3 w7); (try have := s11 w3 w7); (try have := s12 w3 w7); (try have := s20 w3 w7); (try have := s21 w3 w7); (try have := s22 w3 w7); (try have := s00 w4 w7); (try have := s01 w4 w7); (try have := s02 w4 w7); (try have := s10 w4 w7); (try have := s11 w4 w7); (try have := s12 w4 w7); (try have := s20 w4 w7); (try have := s21 w4 w7); (try have := s22 w4 w7); (try have := s00 w5 w7); (try have := s01 w5 w7); (try have := s02 w5 w7); (try have := s10 w5 w7); (try have := s11 w5 w7); (try have := s12 w5 w7); (try have := s20 w5 w7); (try have := s21 w5 w7); (try have := s22 w5 w7); (try have := s00 w6 w7); (try have := s01 w6 w7); (try have := s02 w6 w7); (try have := s10 w6 w7); (try have := s11 w6 w7); (try have := s12 w6 w7); (try have := s20 w6 w7); (try have := s21 w6 w7); (try have := s22 w6 w7); clear haft
           go_wp2
           go_roundw
           case rel => exact ⟨j + 1, M2, ch, by omega, by go_num, rfl, (HM.out.alloc _).up hb7, hrc, Hs, hcn, hcs, (HK.out.alloc _).up hb7⟩
           case measure => simp [intOf]; omega
          cases e4 : hsM (eff (opr t.ops k).effs j).whn M2
          case false =>
           rw [e3] at KP
           rw [e4] at KW
           have Hs := Lib.hid (show ch = false → ClK t (a1, a2) M2 k (j + 1) from fun hc => clK_step (hcl.out hc) (fun _ _ h => by rw [e4] at h; cases h))
           go_wp2_with fail
           refine wp_region_aft (by kernel_rfl) (by kernel_rfl) (by (try simp); exact rfl) ?_; intro haft; (repeat (go_big_quiet_step ((first | (go_at_call 75; with_reducible exact aft_of (KP.out _ (Aft.below _))) | (go_at_call 75; with_reducible exact aft_of (KW.out _ (Aft.below _))))))); refine wpQuiet_nil ?_; intro w7 hwx; have hb7 := aft_below hwx; clear hwx; obtain ⟨hc7, hf7, hz7, hlt7, hle7⟩ := cellsIf hb7 (by (try simp); exact rfl); (try have := s00 w w7); (try have := s01 w w7); (try have := s02 w w7); (try have := s10 w w7); (try have := s11 w w7); (try have := s12 w w7); (try have := s20 w w7); (try have := s21 w w7); (try have := s22 w w7); (try have := s00 w1 w7); (try have := s01 w1 w7); (try have := s02 w1 w7); (try have := s10 w1 w7); (try have := s11 w1 w7); (try have := s12 w1 w7); (try have := s20 w1 w7); (try have := s21 w1 w7); (try have := s22 w1 w7); (try have := s00 w2 w7); (try have := s01 w2 w7); (try have := s02 w2 w7); (try have := s10 w2 w7); (try have := s11 w2 w7); (try have := s12 w2 w7); (try have := s20 w2 w7); (try have := s21 w2 w7); (try have := s22 w2 w7); (try have := s00 w3 w7); (try have := s01 w3 w7); (try have := s02 w3 w7); (try have := s10 w3 w7); (try have := s11 w3 w7); (try have := s12 w3 w7); (try have := s20 w3 w7); (try have := s21 w3 w7); (try have := s22 w3 w7); (try have := s00 w4 w7); (try have := s01 w4 w7); (try have := s02 w4 w7); (try have := s10 w4 w7); (try have := s11 w4 w7); (try have := s12 w4 w7); (try have := s20 w4 w7); (try have := s21 w4 w7); (try have := s22 w4 w7); (try have := s00 w5 w7); (try have := s01 w5 w7); (try have := s02 w5 w7); (try have := s10 w5 w7); (try have := s11 w5 w7); (try have := s12 w5 w7); (try have := s20 w5 w7); (try have := s21 w5 w7); (try have := s22 w5 w7); (try have := s00 w6 w7); (try have := s01 w6 w7); (try have := s02 w6 w7); (try have := s10 w6 w7); (try have := s11 w6 w7); (try have := s12 w6 w7); (try have := s20 w6 w7); (try have := s21 w6 w7); (try have := s22 w6 w7); clear haft
           go_wp2
           go_roundw
           case rel => exact ⟨j + 1, M2, ch, by omega, by go_num, rfl, (HM.out.alloc _).up hb7, hrc, Hs, hcn, hcs, (HK.out.alloc _).up hb7⟩
           case measure => simp [intOf]; omega
          rw [e3] at KP
          rw [e4] at KW
          have hmk := rc_mark HR.out hrc.out hlt hltj (by rw [Hef.out]; exact Hne.out) e3 e4
          rw [Hef.out] at hmk
          have Hmk := Lib.hid (show RcI t s (a1, a2) (put2 M2 uv ux) by simpa using hmk)
          have Hcc := Lib.hid (cnt2_put (n := t.vars.length) e2 hxl hvn)
          clear hmk
          go_wp2_with fail
          refine wp_region_aft (by kernel_rfl) (by kernel_rfl) (by (try simp); exact rfl) ?_; intro haft; (repeat (go_big_quiet_step ((first | (go_at_call 75; with_reducible exact aft_of (KP.out _ (Aft.below _))) | (go_at_call 75; with_reducible exact aft_of (KW.out _ (Aft.below _))))))); refine wpQuiet_nil ?_; intro w7 hwx; have hb7 := aft_below hwx; clear hwx; obtain ⟨hc7, hf7, hz7, hlt7, hle7⟩ := cellsIf hb7 (by (try simp); exact rfl); (try have := s00 w w7); (try have := s01 w w7); (try have := s02 w w7); (try have := s10 w w7); (try have := s11 w w7); (try have := s12 w w7); (try have := s20 w w7); (try have := s21 w w7); (try have := s22 w w7); (try have := s00 w1 w7); (try have := s01 w1 w7); (try have := s02 w1 w7); (try have := s10 w1 w7); (try have := s11 w1 w7); (try have := s12 w1 w7); (try have := s20 w1 w7); (try have := s21 w1 w7); (try have := s22 w1 w7); (try have := s00 w2 w7); (try have := s01 w2 w7); (try have := s02 w2 w7); (try have := s10 w2 w7); (try have := s11 w2 w7); (try have := s12 w2 w7); (try have := s20 w2 w7); (try have := s21 w2 w7); (try have := s22 w2 w7); (try have := s00 w3 w7); (try have := s01 w3 w7); (try have := s02 w3 w7); (try have := s10 w3 w7); (try have := s11 w3 w7); (try have := s12 w3 w7); (try have := s20 w3 w7); (try have := s21 w3 w7); (try have := s22 w3 w7); (try have := s00 w4 w7); (try have := s01 w4 w7); (try have := s02 w4 w7); (try have := s10 w4 w7); (try have := s11 w4 w7); (try have := s12 w4 w7); (try have := s20 w4 w7); (try have := s21 w4 w7); (try have := s22 w4 w7); (try have := s00 w5 w7); (try have := s01 w5 w7); (try have := s02 w5 w7); (try have := s10 w5 w7); (try have := s11 w5 w7); (try have := s12 w5 w7); (try have := s20 w5 w7); (try have := s21 w5 w7); (try have := s22 w5 w7); (try have := s00 w6 w7); (try have := s01 w6 w7); (try have := s02 w6 w7); (try have := s10 w6 w7); (try have := s11 w6 w7); (try have := s12 w6 w7); (try have := s20 w6 w7); (try have := s21 w6 w7); (try have := s22 w6 w7); clear haft
          have M7 := (HM.out.alloc (.cells #[.slice S' (eff (opr t.ops k).effs j).whn.length c', .int .i64 (uv : Int), .int .i64 (ux : Int)] 80)).up hb7
          have s1 := M7.top uv hvn
          have s2 := M7.cell hvn hxl
          have s3 := M7.frozen ux hvn
          have s4 := M7.rlt hvn
          have s5 := M7.glt
          have z7 := hb7.size
          simp only [World.size_alloc] at z7
          have s6 : w7.cell? ⟨wr.heap.size, 1, none⟩ = some (.int .i64 (uv : Int)) := (hb7.cell (p := ⟨wr.heap.size, 1, none⟩) (by simp)).trans (by simp)
          have s7 : w7.cell? ⟨wr.heap.size, 2, none⟩ = some (.int .i64 (ux : Int)) := (hb7.cell (p := ⟨wr.heap.size, 2, none⟩) (by simp)).trans (by simp)
          have s8 : wr.heap.size < w7.heap.size := z7
          have Hlt := Lib.hid (show cnt2 (put2 M2 uv ux) (Ld t) t.vars.length < cnt2 M (Ld t) t.vars.length by have := Hcc.out; have := hcn.out; omega)
          go_wp2_with fail
          refine wp_region_G 8 (fun w' => w'.cell? ⟨wr.heap.size, 1, none⟩ = some (.int .i64 (uv : Int)) ∧ w'.cell? ⟨wr.heap.size, 2, none⟩ = some (.int .i64 (ux : Int)) ∧ w'.cell? ⟨g, uv, none⟩ = some (.slice (some ⟨rb uv, 0, none⟩) (Ld t uv) (Ld t uv))) (by kernel_rfl) (⟨s6, s7, s1⟩) ?_
          intro hG0
          refine wpS1 0 hG0 ?_; intro hG1; clear hG0
          refine wpS1 1 hG1 ?_; intro hG2; clear hG1
          refine wpS2 2 hG2 ?_; intro hG3; clear hG2
          refine wpS1 3 hG3 ?_; intro hG4; clear hG3
          refine wpS2 4 hG4 ?_; intro hG5; clear hG4
          refine wpS1 5 hG5 ?_; intro hG6; clear hG5
          refine wpS2 6 hG6 ?_; intro hG7; clear hG6
          refine wpS1 7 hG7 ?_; intro hG8; clear hG7
          refine wpAnyG_ready (rs := [8]) (by kernel_rfl) (by simp) (AllG.cons rfl hG8 (fun K hK => ?_) AllG.nil)
          (go_simp)
          refine hK.out _ _ (Or.inl rfl) (fun hG9 => wpN ?_); clear hK hG8
          refine wpS1 9 hG9 ?_; intro hG10; clear hG9
          refine wpAnyG_done (by kernel_rfl) ?_ _; clear hG10
          go_wp2
          go_roundw
          case rel => exact ⟨j + 1, put2 M2 uv ux, true, by omega, by go_num, rfl, MatIs.put_true (M7.drew) hvn (fun _ _ _ _ => rfl), Hmk, Lib.hid (fun h => by cases h), Lib.hid (by have := Hlt.out; omega), Lib.hid (fun _ => Hlt.out), (((HK.out.alloc _).up hb7).drew).set (p := ⟨rb uv, ux, none⟩) r0 r1 _⟩
          case measure => simp [intOf]; omega
        ·obtain rfl : j = (opr t.ops k).effs.length := by omega
         have Hcl2 := Lib.hid (fun hc => clK_row (hcl.out hc))
         go_wp2
         go_roundw
         case rel => exact ⟨k + 1, M2, ch, by omega, by go_num, rfl, hmat, hrc, Hcl2, hcn, hcs, hkpr⟩
         case measure => simp [intOf]; omega
      -- END FILL
      ·obtain rfl : k = t.ops.length := by omega
       have Hg := Lib.hid (show 2 * cnt2 M1 (Ld t) t.vars.length + (if ch then 1 else 0) < gk by
        have h1 := Hgk.out
        have h2 := hcs.out
        have h3 := hcn.out
        cases ch
        ·simp at h1 ⊢; omega
        ·have := h2 rfl; simp at h1 ⊢; omega)
       go_wp2
       go_roundg (2 * cnt2 M1 (Ld t) t.vars.length + (if ch then 1 else 0))
       case measure => exact Hg.out
       case rel => exact ⟨M1, ch, rfl, rfl, hmat, hrc, hcl, hkp⟩
end

section
open Go Go.RowKit
set_option linter.unusedVariables false

/-- Achievers: the error, the list. -/
def acC (t : Tsk) (s : List Int) (x y : Int) : Int := if stB t.vars s then (if faB t.vars [(x, y)] then 0 else 1) else 2
noncomputable def acL (t : Tsk) (s : List Int) (x y : Int) : List Int := if acC t s x y = 0 then ach t s (x, y) else []
def RAchRet (t : Tsk) (s : List Int) (x y : Int) (lo : Nat) (e : Ending) (w' : World) : Prop := ∃ v, e = .returned (.tuple #[v, .int .i64 (acC t s x y)]) ∧ GotI2 w' lo v (acL t s x y)

set_option maxRecDepth 100000 in
set_option maxHeartbeats 16000000 in
theorem rachs_any (t : Tsk) (p : Lies) (s : List Int) (AS : Option Addr) (cs : Nat) (a1 a2 : Int) (w : World) (ht : TaskAt w w.heap.size t p) (hs : IntsAt w w.heap.size AS s) (hr : Right t) :
  Calls Tryz.prog 42 #[TaskV t p, .slice AS s.length cs, .agg #[.int .i64 a1, .int .i64 a2]] w fun e w' => RAchRet t s a1 a2 w.heap.size e w' ∧ Below w.heap.size w w' := by
 have K1 := Lib.hid (fun wx (hb : Below w.heap.size w wx) => state_any t.vars s p.av AS p.cv cs wx (ht.vars.up hb) (hs.up hb))
 have K2 := Lib.hid (fun H wx (hb : Below w.heap.size w wx) (h : FactsAt wx wx.heap.size (some ⟨H, 0, none⟩) [(a1, a2)]) => bproper_any t.vars [(a1, a2)] p.av (some ⟨H, 0, none⟩) p.cv 1 wx (ht.vars.up hb) h)
 have K3 := Lib.hid (fun wx (hb : Below w.heap.size w wx) hst => rreach_any t p s AS cs a1 a2 wx (ht.up hb) (hs.up hb) hst hr)
 have HR := Lib.hid hr
 have o64 := hr.no
 obtain ⟨inf, hi, iz0, iz1, iz2⟩ := info_parts infoI8
 obtain ⟨av, ai, ag, ao, cv, ci, cg, co⟩ := p
 unfold TaskV at *
 dsimp only at *
 clear hr
 cases e1 : stB t.vars s
 ·have Hc : Hid (acC t s a1 a2 = 2) := Lib.hid (by unfold acC; rw [e1]; rfl)
  rw [e1] at K1
  clear K2 K3
  go_enter Tryz.func42, Tryz.ntmps42
  go_wp2_with fail; refine (K1.out _ (by exact bel)).mono ?_; rintro e w1 ⟨rfl, hb1⟩; obtain ⟨hc1, hf1, hz1, hlt1, hle1⟩ := cellsIf hb1 (by (try simp); exact rfl); (try have := s00 w w1); (try have := s01 w w1); (try have := s02 w w1); (try have := s10 w w1); (try have := s11 w w1); (try have := s12 w w1); (try have := s20 w w1); (try have := s21 w w1); (try have := s22 w w1)
  go_wp2
  refine bodyPost_ret (v := .tuple #[.slice none 0 0, .int .i64 2]) (by simp [results, Tryz.results42, go_sem]) rfl ⟨⟨.slice none 0 0, by rw [Hc.out], by unfold acL; rw [Hc.out]; exact got2_nil _ _⟩, by exact bel⟩
 have Hst := Lib.hid e1
 rw [e1] at K1
 cases e2 : faB t.vars [(a1, a2)]
 ·have Hc : Hid (acC t s a1 a2 = 1) := Lib.hid (by unfold acC; rw [e1, e2]; rfl)
  rw [e2] at K2
  clear K3 e1 e2
  go_enter Tryz.func42, Tryz.ntmps42
  go_wp2_with fail; refine (K1.out _ (by exact bel)).mono ?_; rintro e w1 ⟨rfl, hb1⟩; obtain ⟨hc1, hf1, hz1, hlt1, hle1⟩ := cellsIf hb1 (by (try simp); exact rfl); (try have := s00 w w1); (try have := s01 w w1); (try have := s02 w w1); (try have := s10 w w1); (try have := s11 w w1); (try have := s12 w w1); (try have := s20 w w1); (try have := s21 w w1); (try have := s22 w w1)
  go_wp2_with fail; refine (K2.out _ _ (by exact bel) (factsAt_one (by first | omega | (simp; done) | (simp; omega)) (by first | (go_simp; done) | (simp [*]; done)) (by first | (go_simp; done) | (simp [*]; done)))).mono ?_; rintro e w2 ⟨rfl, hb2⟩; obtain ⟨hc2, hf2, hz2, hlt2, hle2⟩ := cellsIf hb2 (by (try simp); exact rfl); (try have := s00 w w2); (try have := s01 w w2); (try have := s02 w w2); (try have := s10 w w2); (try have := s11 w w2); (try have := s12 w w2); (try have := s20 w w2); (try have := s21 w w2); (try have := s22 w w2); (try have := s00 w1 w2); (try have := s01 w1 w2); (try have := s02 w1 w2); (try have := s10 w1 w2); (try have := s11 w1 w2); (try have := s12 w1 w2); (try have := s20 w1 w2); (try have := s21 w1 w2); (try have := s22 w1 w2)
  go_wp2
  refine bodyPost_ret (v := .tuple #[.slice none 0 0, .int .i64 1]) (by simp [results, Tryz.results42, go_sem]) rfl ⟨⟨.slice none 0 0, by rw [Hc.out], by unfold acL; rw [Hc.out]; exact got2_nil _ _⟩, by exact bel⟩
 have Hc : Hid (acC t s a1 a2 = 0) := Lib.hid (by unfold acC; rw [e1, e2]; rfl)
 rw [e2] at K2
 clear e1 e2
 go_enter Tryz.func42, Tryz.ntmps42
 go_wp2_with fail; refine (K1.out _ (by exact bel)).mono ?_; rintro e w1 ⟨rfl, hb1⟩; obtain ⟨hc1, hf1, hz1, hlt1, hle1⟩ := cellsIf hb1 (by (try simp); exact rfl); (try have := s00 w w1); (try have := s01 w w1); (try have := s02 w w1); (try have := s10 w w1); (try have := s11 w w1); (try have := s12 w w1); (try have := s20 w w1); (try have := s21 w w1); (try have := s22 w w1)
 go_wp2_with fail; refine (K2.out _ _ (by exact bel) (factsAt_one (by first | omega | (simp; done) | (simp; omega)) (by first | (go_simp; done) | (simp [*]; done)) (by first | (go_simp; done) | (simp [*]; done)))).mono ?_; rintro e w2 ⟨rfl, hb2⟩; obtain ⟨hc2, hf2, hz2, hlt2, hle2⟩ := cellsIf hb2 (by (try simp); exact rfl); (try have := s00 w w2); (try have := s01 w w2); (try have := s02 w w2); (try have := s10 w w2); (try have := s11 w w2); (try have := s12 w w2); (try have := s20 w w2); (try have := s21 w w2); (try have := s22 w w2); (try have := s00 w1 w2); (try have := s01 w1 w2); (try have := s02 w1 w2); (try have := s10 w1 w2); (try have := s11 w1 w2); (try have := s12 w1 w2); (try have := s20 w1 w2); (try have := s21 w1 w2); (try have := s22 w1 w2)
 have hbw2 : Below w.heap.size w w2 := by exact bel
 have hbx2 : Boxed w2 w.heap.size t ⟨av, ai, ag, ao, cv, ci, cg, co⟩ := by
  have h0 : Boxed (w.alloc (.cells #[.slice av t.vars.length cv, .slice ai t.init.length ci, .slice ag t.goal.length cg, .slice ao t.ops.length co] 26)) w.heap.size t ⟨av, ai, ag, ao, cv, ci, cg, co⟩ := by constructor <;> simp
  exact ((h0.up ((Below.refl _ _).alloc (Nat.le_refl _) _)).up hb1).up (((Below.refl _ _).alloc (Nat.le_refl _) _).trans (hb2.mono (by simp)))
 have z2 := hbw2.size
 have t0 : w2.cell? ⟨w.heap.size + 1, 0, none⟩ = some (.int .i64 a1) := by go_simp
 have t1 : w2.cell? ⟨w.heap.size + 1, 1, none⟩ = some (.int .i64 a2) := by go_simp
 have zz : w.heap.size + 2 ≤ w2.heap.size := by omega
 clear hc1 hf1 hlt1 hle1 hb1 hz1 hc2 hf2 hlt2 hle2 hb2 hz2
 obtain ⟨z0, y0, y1, y2, y3⟩ := id hbx2
 dsimp only at y0 y1 y2 y3
 go_wp2_with fail
 refine (K3.out _ hbw2 Hst.out).mono ?_
 rintro e w3 ⟨⟨A, c, g, rb, rfl, hA, hm⟩, hb3⟩
 have hbw3 := hbw2.trans (hb3.mono z2)
 have hbx3 := hbx2.up hb3
 have t0' := (hb3.cell (p := ⟨w.heap.size + 1, 0, none⟩) (by show w.heap.size + 1 < _; omega)).trans t0
 have t1' := (hb3.cell (p := ⟨w.heap.size + 1, 1, none⟩) (by show w.heap.size + 1 < _; omega)).trans t1
 have z3 := hb3.size
 have HM := Lib.hid hm
 have HA := Lib.hid hA
 clear hm hA z0 y0 y1 y2 y3 hbx2 t0 t1 hb3
 obtain ⟨z0, y0, y1, y2, y3⟩ := id hbx3
 dsimp only at y0 y1 y2 y3
 go_wp2
 go_loopw [9, 33] (fun v i wr => ∃ (k : Nat), k ≤ t.ops.length ∧ i = .int .i64 k ∧ Hid (wr.ownsRow w3.heap.size 3 1 v (achN t s (a1, a2) k).length (ic (achN t s (a1, a2) k))) ∧ Below w3.heap.size w3 wr) (fun _ i _ => t.ops.length - (intOf i).toNat)
 case atStart => exact ⟨0, by omega, rfl, Lib.hid (World.ownsRow_nil _ _ _ _), Below.refl _ _⟩
 case round =>
  clear z0 y0 y1 y2 y3
  obtain ⟨k, hk, rfl, hown, hbel⟩ := hrel
  obtain ⟨wb, rfl⟩ : ∃ wb : World, wb = wr := ⟨_, rfl⟩
  have hbz := hbel.size
  have hz3 := hbw3.size
  have hbwr : Below w.heap.size w wb := hbw3.trans (hbel.mono hz3)
  obtain ⟨z0, y0, y1, y2, y3⟩ := id (hbx3.up hbel)
  dsimp only at y0 y1 y2 y3
  by_cases hlt : k < t.ops.length
  ·obtain ⟨b, o, S, cS, T, d, ea, hb, n0, n1, n2, n3, f2, n4, e3⟩ := ht.ops.at2 hbwr hlt
   dsimp only at ea
   subst ea
   have g2 : b < wb.heap.size := by have := hbwr.size; omega
   have j1 := f2.len
   have j2 := e3.len
   have npr := HR.out.np k hlt
   have nef := HR.out.ne k hlt
   have lach := achN_len (t := t) (s := s) (f := (a1, a2)) k
   have k0 : (0 : Int) ≤ (k : Int) := by omega
   have k1 : (k : Int) < (t.ops.length : Int) := by omega
   go_wp2
   go_loopw [12, 41] (fun v i wr => ∃ (j : Nat), j ≤ (opr t.ops k).effs.length ∧ i = .int .i64 j ∧ v = .bool (anyB j (acE t s (a1, a2) k)) ∧ Below (wb.heap.size + 1) (wb.alloc (.cells #[.string (opr t.ops k).name, .int .i64 (opr t.ops k).cost, .slice S (opr t.ops k).pre.length cS, .slice T (opr t.ops k).effs.length d] 55)) wr) (fun _ i _ => (opr t.ops k).effs.length - (intOf i).toNat)
   case atStart => exact ⟨0, by omega, rfl, rfl, Below.refl _ _⟩
   case round =>
    clear z0 y0 y1 y2 y3 n0 n1 n2 n3 n4
    obtain ⟨j, hj, rfl, rfl, hb1⟩ := hrel
    have hb01 : Below wb.heap.size wb wr := ((Below.refl _ _).alloc (Nat.le_refl _) _).trans (hb1.mono (Nat.le_succ _))
    have hbelr := hbwr.trans (hb01.mono hbwr.size)
    have hb3r := hbel.trans (hb01.mono hbz)
    have hs1 := hb1.size
    simp only [World.size_alloc] at hs1
    have p2 : wr.cell? ⟨wb.heap.size, 2, none⟩ = some (.slice S (opr t.ops k).pre.length cS) := (hb1.cell (p := ⟨wb.heap.size, 2, none⟩) (Nat.lt_succ_self _)).trans (by simp)
    have p3 : wr.cell? ⟨wb.heap.size, 3, none⟩ = some (.slice T (opr t.ops k).effs.length d) := (hb1.cell (p := ⟨wb.heap.size, 3, none⟩) (Nat.lt_succ_self _)).trans (by simp)
    have gp : wb.heap.size < wr.heap.size := by omega
    have p0 : wr.cell? ⟨w.heap.size + 1, 0, none⟩ = some (.int .i64 a1) := (hb3r.cell (p := ⟨w.heap.size + 1, 0, none⟩) (by show w.heap.size + 1 < _; omega)).trans t0'
    have p1 : wr.cell? ⟨w.heap.size + 1, 1, none⟩ = some (.int .i64 a2) := (hb3r.cell (p := ⟨w.heap.size + 1, 1, none⟩) (by show w.heap.size + 1 < _; omega)).trans t1'
    have gw : w.heap.size + 1 < wr.heap.size := by omega
    by_cases hltj : j < (opr t.ops k).effs.length
    ·obtain ⟨b', o', S', c', ea', hb', i0, f5, i1, i2⟩ := e3.at2 hbelr hltj
     subst ea'
     have g3 : b' < wr.heap.size := by have := hbelr.size; omega
     have j3 := f5.len
     have nwh := HR.out.nw k hlt j hltj
     have j0 : (0 : Int) ≤ (j : Int) := by omega
     have j4 : (j : Int) < ((opr t.ops k).effs.length : Int) := by omega
     have HS : Hid (anyB (j + 1) (acE t s (a1, a2) k) = (anyB j (acE t s (a1, a2) k) || acE t s (a1, a2) k j)) := anyB_succ _ _
     have HE : Hid (acE t s (a1, a2) k j = (decide (efF t k j = (a1, a2)) && (hsM (opr t.ops k).pre (rcB t s (a1, a2)) && hsM (eff (opr t.ops k).effs j).whn (rcB t s (a1, a2))))) := rfl
     have hef : efF t k j = ((eff (opr t.ops k).effs j).var, (eff (opr t.ops k).effs j).val) := rfl
     have Hef := Lib.hid hef
     have KP := Lib.hid (fun wx (hb : Below wr.heap.size wr wx) => rall_any t (opr t.ops k).pre (rcB t s (a1, a2)) A S c cS g rb wx HA.out ((HM.out.up hb3r).up hb) ((f2.up hbelr).up hb) (rng_fa (HR.out.pre k hlt)))
     have KW := Lib.hid (fun wx (hb : Below wr.heap.size wr wx) => rall_any t (eff (opr t.ops k).effs j).whn (rcB t s (a1, a2)) A S' c c' g rb wx HA.out ((HM.out.up hb3r).up hb) ((f5.up hbelr).up hb) (rng_fa (HR.out.whn k hlt j hltj)))
     clear hef
     obtain ⟨W0, hW0⟩ : ∃ W0, W0 = wr.alloc (.cells #[.slice S' (eff (opr t.ops k).effs j).whn.length c', .int .i64 (eff (opr t.ops k).effs j).var, .int .i64 (eff (opr t.ops k).effs j).val] 80) := ⟨_, rfl⟩
     have hb8 : Below wr.heap.size wr W0 := by rw [hW0]; exact (Below.refl _ _).alloc (Nat.le_refl _) _
     have HW0 := Lib.hid hW0
     cases ei : anyB j (acE t s (a1, a2) k)
     case true =>
      have Hs := Lib.hid (show anyB (j + 1) (acE t s (a1, a2) k) = true by rw [HS.out, ei]; rfl)
      rw [hW0] at hb8
      clear KP KW HE hW0 HW0 ei
      go_wp2
      go_roundw
      case rel => exact ⟨j + 1, by omega, by go_num, by rw [Hs.out], hb1.trans (hb8.mono hs1)⟩
      case measure => simp [intOf]; omega
     by_cases h1 : (eff (opr t.ops k).effs j).var = a1
     case neg =>
      have Hs := Lib.hid (show anyB (j + 1) (acE t s (a1, a2) k) = false by rw [HS.out, ei, HE.out, decide_eq_false (fun e => h1 (by rw [Hef.out] at e; exact congrArg Prod.fst e))]; rfl)
      have h3 : ((eff (opr t.ops k).effs j).var == a1) = false := by simpa using h1
      have h4 : decide ((eff (opr t.ops k).effs j).var = a1) = false := by simpa using h1
      rw [hW0] at hb8
      clear KP KW HE hW0 HW0 ei
      go_wp2
      go_roundw
      case rel => exact ⟨j + 1, by omega, by go_num, by rw [Hs.out], hb1.trans (hb8.mono hs1)⟩
      case measure => simp [intOf]; omega
     by_cases h2 : (eff (opr t.ops k).effs j).val = a2
     case neg =>
      have Hs := Lib.hid (show anyB (j + 1) (acE t s (a1, a2) k) = false by rw [HS.out, ei, HE.out, decide_eq_false (fun e => h2 (by rw [Hef.out] at e; exact congrArg Prod.snd e))]; rfl)
      have h3 : ((eff (opr t.ops k).effs j).var == a1) = true := by simpa using h1
      have h5 : ((eff (opr t.ops k).effs j).val == a2) = false := by simpa using h2
      have h6 : decide ((eff (opr t.ops k).effs j).val = a2) = false := by simpa using h2
      have h7 : decide ((eff (opr t.ops k).effs j).var = a1) = true := by simpa using h1
      rw [hW0] at hb8
      clear KP KW HE hW0 HW0 ei h1
      go_wp2
      go_roundw
      case rel => exact ⟨j + 1, by omega, by go_num, by rw [Hs.out], hb1.trans (hb8.mono hs1)⟩
      case measure => simp [intOf]; omega
     have hE2 : acE t s (a1, a2) k j = (hsM (opr t.ops k).pre (rcB t s (a1, a2)) && hsM (eff (opr t.ops k).effs j).whn (rcB t s (a1, a2))) := by rw [HE.out, decide_eq_true (by rw [Hef.out, h1, h2])]; rfl
     have HE2 := Lib.hid hE2
     have h3 : ((eff (opr t.ops k).effs j).var == a1) = true := by simpa using h1
     have h5 : ((eff (opr t.ops k).effs j).val == a2) = true := by simpa using h2
     have h6 : decide ((eff (opr t.ops k).effs j).val = a2) = true := by simpa using h2
     have h7 : decide ((eff (opr t.ops k).effs j).var = a1) = true := by simpa using h1
     clear hE2 HE h1 h2
     cases e4 : hsM (opr t.ops k).pre (rcB t s (a1, a2))
     case false =>
      have Hs := Lib.hid (show anyB (j + 1) (acE t s (a1, a2) k) = false by rw [HS.out, ei, HE2.out, e4]; rfl)
      rw [e4] at KP
      rw [hW0] at hb8
      clear KW HE2 hW0 HW0 ei e4
      go_wp2_with fail
      refine (KP.out _ (by exact bel)).mono ?_
      rintro e w8 ⟨rfl, hb9⟩
      have hb89 := hb8.trans (hb9.mono (by simp))
      clear hb9
      go_wp2
      go_roundw
      case rel => exact ⟨j + 1, by omega, by go_num, by rw [Hs.out], hb1.trans (hb89.mono hs1)⟩
      case measure => simp [intOf]; omega
     obtain ⟨e5v, he5⟩ : ∃ e5v, hsM (eff (opr t.ops k).effs j).whn (rcB t s (a1, a2)) = e5v := ⟨_, rfl⟩
     have Hs := Lib.hid (show anyB (j + 1) (acE t s (a1, a2) k) = e5v by rw [HS.out, ei, HE2.out, e4, he5]; simp)
     rw [e4] at KP
     rw [he5] at KW
     rw [hW0] at hb8
     clear HE2 hW0 HW0 ei e4 he5
     go_wp2_with fail
     refine (KP.out _ (by exact bel)).mono ?_
     rintro e w8 ⟨rfl, hb9⟩
     have hb89 := hb8.trans (hb9.mono (by simp))
     have i0' : w8.cell? ⟨wr.heap.size, 0, none⟩ = some (.slice S' (eff (opr t.ops k).effs j).whn.length c') := (hb9.cell (p := ⟨wr.heap.size, 0, none⟩) (by simp)).trans (by simp)
     have gz : wr.heap.size < w8.heap.size := by have := hb9.size; simp at this; omega
     have zr8 := hb89.size
     clear hb9
     go_wp2_with fail
     refine (KW.out _ hb89).mono ?_
     rintro e w10 ⟨rfl, hb10⟩
     have hb810 := hb89.trans (hb10.mono zr8)
     clear hb10
     go_wp2
     go_roundw
     case rel => exact ⟨j + 1, by omega, by go_num, by rw [Hs.out], hb1.trans (hb810.mono hs1)⟩
     case measure => simp [intOf]; omega
    ·obtain rfl : j = (opr t.ops k).effs.length := by omega
     have Hown2 := Lib.hid (own_below hown.out hb01)
     have z3r := hb3r.size
     have acb : Hid (acB t s (a1, a2) k = anyB (opr t.ops k).effs.length (acE t s (a1, a2) k)) := rfl
     cases ei : anyB (opr t.ops k).effs.length (acE t s (a1, a2) k)
     ·have Hs := Lib.hid (achN_no (t := t) (s := s) (f := (a1, a2)) (k := k) (by rw [acb.out, ei]))
      clear ei acb
      go_wp2
      go_roundw
      case rel => exact ⟨k + 1, by omega, by go_num, Lib.hid (by rw [Hs.out]; exact Hown2.out), hb3r⟩
      case measure => simp [intOf]; omega
     ·have Hs := Lib.hid (achN_yes (t := t) (s := s) (f := (a1, a2)) (k := k) (by rw [acb.out, ei]))
      clear ei acb
      go_wp2_with (at_builtin; refine wpList_push rfl _ _ 22 rfl w3.heap.size 3 inf (.int .i64 0) 1 8 undI8 hi iz0 iz1 iz2 rfl (by decide) (by decide) _ (achN t s (a1, a2) k).length (ic (achN t s (a1, a2) k)) rfl (Hown2.out.alloc _) wr.heap.size 3 [.int .i64 (k : Int)] rfl rfl (heap_alloc_new _ _) (one_one rfl) (by omega) (by first | omega | (simp; omega)) (B := w3.heap.size) (W := w3) (hb3r.alloc z3r _) (Nat.le_refl _) ?_; intro v' w8 hown' hgrow hat hbw8; have Hown := Lib.hid hown'; clear hown' hgrow hat)
      go_roundw
      case rel => exact ⟨k + 1, by omega, by go_num, Lib.hid (by rw [Hs.out, List.length_append, ← ic_push]; exact Hown.out), hbw8⟩
      case measure => simp [intOf]; omega
  ·obtain rfl : k = t.ops.length := by omega
   have hg := own_got2 hown.out (by have := achN_len (t := t) (s := s) (f := (a1, a2)) t.ops.length; omega)
   obtain ⟨A', c', rfl, hA', hI', hlo'⟩ := hg
   have Hg : Hid (GotI2 wb w.heap.size (.slice A' (achN t s (a1, a2) t.ops.length).length c') (acL t s a1 a2)) := Lib.hid (by unfold acL; rw [Hc.out, if_pos rfl]; exact ⟨A', c', rfl, hA', hI', fun a e => Nat.le_trans hbw3.size (hlo' a e)⟩)
   clear hA' hI' hlo' hown
   go_wp2
   refine bodyPost_ret (v := .tuple #[.slice A' (achN t s (a1, a2) t.ops.length).length c', .int .i64 0]) (by simp [results, Tryz.results42, go_sem]) rfl ⟨⟨_, by rw [Hc.out], Hg.out⟩, hbwr⟩
end

section
open Go.RowKit
set_option linter.unusedVariables false

theorem cut_left {a b : List Cut} {k : Nat} (h : k < a.length) : cut (a ++ b) k = cut a k := by unfold cut; simp [List.getD, List.getElem?_append_left h]
theorem cut_last {a : List Cut} {u : Cut} : cut (a ++ [u]) a.length = u := by unfold cut; simp [List.getD]

section
variable {w w' : World} {B B' : Nat} {A : Option Addr}
end

theorem infoCu : (Tryz.prog.info? 41).map (fun i => (i.zero, i.size, i.bytes)) = some (some (.agg #[.slice none 0 0, .int .i64 0]), 2, 32) := by kernel_rfl
theorem undCu : Tryz.prog.underlying 42 = some (.slice 41) := by kernel_rfl

/-- Numbers that lie in another block than r. -/
def IntsNe (w : World) (r : Option Nat) (A : Option Addr) (l : List Int) : Prop := IntsAt w w.heap.size A l ∧ ∀ a, A = some a → 0 < l.length → some a.block ≠ r
theorem IntsNe.up {w w' : World} {r : Option Nat} {A : Option Addr} {l : List Int} (h : IntsNe w r A l) (hb : Below w.heap.size w w') : IntsNe w' r A l := ⟨h.1.up hb, h.2⟩
theorem IntsNe.grown {w w' : World} {r r' : Option Nat} {A : Option Addr} {l : List Int} (h : IntsNe w r A l) (hg : w.grownBy w' r) (hat : r' = r ∨ r' = some w.heap.size) : IntsNe w' r' A l := by
 refine ⟨⟨h.1.1, fun h0 => ?_⟩, fun a e h0 => ?_⟩
 ·obtain ⟨b, off, e, hb, hc⟩ := h.1.2 h0
  have hne := h.2 _ e h0
  refine ⟨b, off, e, Nat.lt_of_lt_of_le hb hg.size, fun k hk => ?_⟩
  exact (World.cell?_of_block (a := ⟨b, off + k, none⟩) (hg.block b hb hne)).trans (hc k hk)
 ·rcases hat with h1 | h1
  ·rw [h1]; exact h.2 a e h0
  ·rw [h1]
   obtain ⟨b, off, e2, hb, _⟩ := h.1.2 h0
   rw [e] at e2
   cases e2
   intro e3
   cases e3
   exact Nat.lt_irrefl _ hb
/-- Cuts in a row of the call's own. -/
def CuRow (w : World) (base : Nat) (v : Value) (l : List Cut) : Prop := ∃ xs, w.ownsRow base 41 2 v l.length xs ∧ ∀ k, k < l.length → ∃ S c, xs[k * 2]? = some (.slice S (cut l k).ops.length c) ∧ IntsNe w v.ownBlock S (cut l k).ops ∧ xs[k * 2 + 1]? = some (.int .i64 (cut l k).cost)
theorem CuRow.nil (w : World) (base : Nat) : CuRow w base (.slice none 0 0) [] := ⟨[], World.ownsRow_nil _ _ _ _, fun k hk => absurd hk (by simp)⟩
theorem CuRow.up {w w' : World} {base : Nat} {v : Value} {l : List Cut} (h : CuRow w base v l) (hb : Below w.heap.size w w') : CuRow w' base v l := by
 obtain ⟨xs, ho, hx⟩ := h
 refine ⟨xs, own_below ho hb, fun k hk => ?_⟩
 obtain ⟨S, c, h1, h2, h3⟩ := hx k hk
 exact ⟨S, c, h1, h2.up hb, h3⟩
theorem CuRow.push {w w' : World} {base : Nat} {v v' : Value} {l : List Cut} {xs : List Value} (ho : w.ownsRow base 41 2 v l.length xs) (hx : ∀ k, k < l.length → ∃ S c, xs[k * 2]? = some (.slice S (cut l k).ops.length c) ∧ IntsNe w v.ownBlock S (cut l k).ops ∧ xs[k * 2 + 1]? = some (.int .i64 (cut l k).cost))
  {S : Option Addr} {c : Nat} {u : Cut} (hI : IntsNe w v.ownBlock S u.ops) (hg : w.grownBy w' v.ownBlock) (hat : v'.ownBlock = v.ownBlock ∨ v'.ownBlock = some w.heap.size)
  (ho' : w'.ownsRow base 41 2 v' (l.length + 1) (xs ++ [.slice S u.ops.length c, .int .i64 u.cost])) : CuRow w' base v' (l ++ [u]) := by
 have hl : xs.length = l.length * 2 := ho.1
 refine ⟨xs ++ [.slice S u.ops.length c, .int .i64 u.cost], by rw [List.length_append]; exact ho', fun k hk => ?_⟩
 rw [List.length_append, List.length_singleton] at hk
 by_cases e : k < l.length
 ·obtain ⟨S', c', h1, h2, h3⟩ := hx k e
  rw [cut_left e]
  exact ⟨S', c', by rw [List.getElem?_append_left (by omega)]; exact h1, h2.grown hg hat, by rw [List.getElem?_append_left (by omega)]; exact h3⟩
 ·obtain rfl : k = l.length := by omega
  rw [cut_last]
  exact ⟨S, c, by rw [← hl]; simp, hI.grown hg hat, by rw [← hl]; simp⟩
def GotCs (w : World) (v : Value) (l : List Cut) : Prop := ∃ A c, v = .slice A l.length c ∧ ((A = none → c = 0) ∧ l.length ≤ c) ∧ CutsAt w w.heap.size A l
theorem gotCs_nil (w : World) : GotCs w (.slice none 0 0) [] := ⟨none, 0, rfl, ⟨fun _ => rfl, Nat.le_refl _⟩, by simp, fun h => absurd h (by simp)⟩
theorem CuRow.got {w : World} {base : Nat} {v : Value} {l : List Cut} (h : CuRow w base v l) (hl : l.length ≤ 1000000) : GotCs w v l := by
 obtain ⟨xs, ho, hx⟩ := h
 rcases ho.2 with ⟨rfl, h0⟩ | ⟨g, cap, cur, rfl, hb, hg, hnc, hcm, hcs, htk⟩
 ·exact ⟨none, 0, by rw [h0], ⟨fun _ => rfl, by omega⟩, by omega, fun hp => absurd hp (by omega)⟩
 ·refine ⟨_, cap, rfl, ⟨(fun e => by cases e), hnc⟩, by omega, fun _ => ⟨g, 0, rfl, (Array.getElem?_eq_some_iff.1 hg).1, fun k hk => ?_⟩⟩
  obtain ⟨S, c, h1, h2, h3⟩ := hx k hk
  have hc : ∀ (i : Nat) (u : Value), i < l.length * 2 → xs[i]? = some u → w.cell? ⟨g, i, none⟩ = some u := fun i u hi h => by
   rw [← htk, List.getElem?_take, if_pos hi] at h
   have := cell_of_row w g i cur 41 (0, 0) hg
   rw [show cur[i]? = some u by simpa using h] at this
   simpa using this
  exact ⟨S, c, by rw [Nat.zero_add]; exact hc _ _ (by omega) h1, h2.1, by rw [Nat.zero_add]; exact hc _ _ (by omega) h3⟩
end

section
open Go Go.RowKit
set_option linter.unusedVariables false

/-- The least cost of the first n operators, at most M. -/
def mnC (t : Tsk) (ops : List Int) (M : Int) : Nat → Int
 | 0 => M
 | n + 1 => min (mnC t ops M n) (opr t.ops (nth ops n).toNat).cost
theorem mnC_succ (t : Tsk) (ops : List Int) (M : Int) (n : Nat) : mnC t ops M (n + 1) = min (mnC t ops M n) (opr t.ops (nth ops n).toNat).cost := rfl
theorem mnC_same (t : Tsk) (ops : List Int) {M M' : Int} (h : (opr t.ops (nth ops 0).toNat).cost ≤ M) (h' : (opr t.ops (nth ops 0).toNat).cost ≤ M') : ∀ n, 0 < n → mnC t ops M n = mnC t ops M' n
 | n + 1, _ => by
  rw [mnC_succ, mnC_succ]
  by_cases e : n = 0
  ·subst e; show min M _ = min M' _; omega
  ·rw [mnC_same t ops h h' n (by omega)]
/-- Is there a cut with these operators? -/
def thB (l : List Cut) (ops : List Int) (k : Nat) : Bool := anyB k fun i => decide ((cut l i).ops = ops)
noncomputable def mkC (t : Tsk) (s : List Int) (M : Int) (f : Int × Int) : Cut := ⟨ach t s f, mnC t (ach t s f) M (ach t s f).length⟩
noncomputable def cuN (t : Tsk) (s : List Int) (F : List (Int × Int)) (M : Int) : Nat → List Cut
 | 0 => []
 | k + 1 => if thB (cuN t s F M k) (ach t s (fac F k)) (cuN t s F M k).length then cuN t s F M k else cuN t s F M k ++ [mkC t s M (fac F k)]
section
variable {t : Tsk} {s : List Int} {F : List (Int × Int)} {M : Int}
theorem cuN_yes {k : Nat} (h : thB (cuN t s F M k) (ach t s (fac F k)) (cuN t s F M k).length = true) : cuN t s F M (k + 1) = cuN t s F M k := by show (if _ then _ else _) = _; rw [if_pos h]
theorem cuN_no {k : Nat} (h : thB (cuN t s F M k) (ach t s (fac F k)) (cuN t s F M k).length = false) : cuN t s F M (k + 1) = cuN t s F M k ++ [mkC t s M (fac F k)] := by show (if _ then _ else _) = _; rw [if_neg (by rw [h]; simp)]
theorem cuN_len : ∀ k, (cuN t s F M k).length ≤ k
 | 0 => Nat.le_refl _
 | k + 1 => by
  have := cuN_len k
  cases h : thB (cuN t s F M k) (ach t s (fac F k)) (cuN t s F M k).length
  ·rw [cuN_no h, List.length_append, List.length_singleton]; omega
  ·rw [cuN_yes h]; omega
theorem mem_cuN : ∀ k, ∀ u ∈ cuN t s F M k, ∃ i, i < k ∧ u = mkC t s M (fac F i)
 | 0, u, h => by cases h
 | k + 1, u, h => by
  cases e : thB (cuN t s F M k) (ach t s (fac F k)) (cuN t s F M k).length
  ·rw [cuN_no e] at h
   rcases List.mem_append.1 h with h | h
   ·obtain ⟨i, hi, e⟩ := mem_cuN k u h; exact ⟨i, by omega, e⟩
   ·rw [List.mem_singleton] at h; exact ⟨k, by omega, h⟩
  ·rw [cuN_yes e] at h
   obtain ⟨i, hi, e⟩ := mem_cuN k u h; exact ⟨i, by omega, e⟩
theorem cuN_same {M' : Int} (h : ∀ i, i < F.length → mkC t s M (fac F i) = mkC t s M' (fac F i)) : ∀ k, k ≤ F.length → cuN t s F M k = cuN t s F M' k
 | 0, _ => rfl
 | k + 1, hk => by
  have ih := cuN_same h k (by omega)
  show (if _ then _ else _) = (if _ then _ else _)
  rw [ih, h k (by omega)]
theorem ach_rng {f : Int × Int} {i : Nat} (h : i < (ach t s f).length) : 0 ≤ nth (ach t s f) i ∧ nth (ach t s f) i < t.ops.length := by
 have hm : nth (ach t s f) i ∈ ach t s f := by unfold nth; simp [List.getD, h]
 obtain ⟨k, hk, e, _⟩ := mem_ach.1 hm
 rw [e]; omega
theorem ach_len {f : Int × Int} : (ach t s f).length ≤ t.ops.length := achN_len _
theorem mkC_same (hr : Right t) {f : Int × Int} (hne : ach t s f ≠ []) {M M' : Int} (h : 1048576 ≤ M) (h' : 1048576 ≤ M') : mkC t s M f = mkC t s M' f := by
 unfold mkC
 have hp : 0 < (ach t s f).length := List.length_pos_iff.2 hne
 have h1 := ach_rng hp
 have h2 := hr.cost (nth (ach t s f) 0).toNat (by omega)
 rw [mnC_same t (ach t s f) (M := M) (M' := M') (by omega) (by omega) _ hp]
end

set_option maxHeartbeats 1000000 in
theorem cuEq_any (a b : List Int) (A1 A2 : Option Addr) (c1 c2 X : Nat) (y : Int) (w : World) (h1 : IntsAt w w.heap.size A1 a) (h2 : IntsAt w w.heap.size A2 b) (hX : w.cell? ⟨X, 0, none⟩ = some (.slice A2 b.length c2)) (hl : X < w.heap.size) :
  Calls Tryz.prog 34 #[.agg #[.slice A1 a.length c1, .int .i64 y], .pointer (some ⟨X, 0, none⟩)] w fun e w' => e = .returned (.bool (decide (a = b))) ∧ Below w.heap.size w w' := by
 have K := Lib.hid (fun wx (hb : Below w.heap.size w wx) => equal_any a b A1 A2 c1 c2 wx (h1.up hb) (h2.up hb))
 clear h1 h2
 go_enter Tryz.func34, Tryz.ntmps34
 go_wp2_with fail
 refine (K.out _ (by exact bel)).mono ?_
 rintro e w1 ⟨rfl, hb1⟩
 go_wp2
 go_ret
 exact ⟨rfl, by exact bel⟩

set_option maxHeartbeats 2000000 in
theorem cuIdx_any (l : List Cut) (b : List Int) (A A2 : Option Addr) (c c2 X : Nat) (w : World) (hl : CutsAt w w.heap.size A l) (h2 : IntsAt w w.heap.size A2 b) (hX : w.cell? ⟨X, 0, none⟩ = some (.slice A2 b.length c2)) (hlt : X < w.heap.size) :
  Calls Tryz.prog 69 #[.slice A l.length c, .func (.func 34) #[] #[.pointer (some ⟨X, 0, none⟩)]] w fun e w' => (∃ i, e = .returned (.int .i64 i) ∧ decide (0 ≤ i) = thB l b l.length) ∧ Below w.heap.size w w' := by
 have K := Lib.hid (fun (a : List Int) A1 c1 y wx (hb : Below w.heap.size w wx) (h1 : IntsAt wx wx.heap.size A1 a) => cuEq_any a b A1 A2 c1 c2 X y wx h1 (h2.up hb) ((hb.cell (p := ⟨X, 0, none⟩) hlt).trans hX) (Nat.lt_of_lt_of_le hlt hb.size))
 have l1 := hl.len
 clear hX h2
 go_enter Tryz.func69, Tryz.ntmps69
 go_wp2
 go_loopw [8] (fun i wr => ∃ k : Nat, k ≤ l.length ∧ i = .int .i64 k ∧ Hid (thB l b k = false) ∧ Below w.heap.size w wr) (fun i _ => l.length - (intOf i).toNat)
 case atStart => exact ⟨0, by omega, rfl, rfl, Below.refl _ _⟩
 case round =>
  obtain ⟨k, hk, rfl, hB, hbel⟩ := hrel
  have hbz := hbel.size
  by_cases hltk : k < l.length
  ·obtain ⟨b1, o1, S, c1, ea, hb1, d1, hI, d2⟩ := hl.at2 hbel hltk
   subst ea
   have g1 : b1 < wr.heap.size := by omega
   have k0 : (0 : Int) ≤ (k : Int) := by omega
   have k1 : (k : Int) < (l.length : Int) := by omega
   have KC := Lib.hid (K.out (cut l k).ops S c1 (cut l k).cost wr hbel (hI.up hbel))
   have HS : Hid (thB l b (k + 1) = (thB l b k || decide ((cut l k).ops = b))) := anyB_succ _ _
   clear hI
   cases e1 : decide ((cut l k).ops = b)
   ·rw [e1] at KC
    go_wp2_with fail
    refine KC.out.mono ?_
    rintro e w' ⟨rfl, hb9⟩
    go_wp2
    go_roundw
    case rel => exact ⟨k + 1, by omega, by go_num, (by rw [HS.out, hB.out, e1]; rfl), hbel.trans (hb9.mono hbz)⟩
    case measure => simp [intOf]; omega
   ·have Ht := Lib.hid (show thB l b l.length = true from anyB_true.2 ⟨k, hltk, e1⟩)
    rw [e1] at KC
    go_wp2_with fail
    refine KC.out.mono ?_
    rintro e w' ⟨rfl, hb9⟩
    go_wp2
    go_ret
    refine ⟨⟨_, rfl, ?_⟩, hbel.trans (hb9.mono hbz)⟩
    rw [Ht.out]
    simp
  ·obtain rfl : k = l.length := by omega
   go_wp2
   go_ret
   refine ⟨⟨_, rfl, ?_⟩, hbel⟩
   rw [hB.out]
   rfl

set_option maxHeartbeats 1000000 in
theorem cuCon_any (l : List Cut) (b : List Int) (A A2 : Option Addr) (c c2 X : Nat) (w : World) (hl : CutsAt w w.heap.size A l) (h2 : IntsAt w w.heap.size A2 b) (hX : w.cell? ⟨X, 0, none⟩ = some (.slice A2 b.length c2)) (hlt : X < w.heap.size) :
  Calls Tryz.prog 33 #[.slice A l.length c, .func (.func 34) #[] #[.pointer (some ⟨X, 0, none⟩)]] w fun e w' => e = .returned (.bool (thB l b l.length)) ∧ Below w.heap.size w w' := by
 have k1 := Lib.hid (cuIdx_any l b A A2 c c2 X w hl h2 hX hlt)
 clear hl h2 hX
 go_enter Tryz.func33, Tryz.ntmps33
 go_wp2_with fail
 refine k1.out.mono ?_
 rintro e w1 ⟨⟨i, rfl, hi⟩, hb1⟩
 have Hi := Lib.hid hi
 clear hi
 go_wp2
 go_ret
 exact ⟨bool_ret Hi.out, by exact bel⟩
end

section
open Go Go.RowKit
set_option linter.unusedVariables false

noncomputable def cuL (t : Tsk) (s : List Int) : List Cut := cuN t s (lmL t s) 1125899906842624 (lmL t s).length
def CutRet (t : Tsk) (s : List Int) (e : Ending) (w' : World) : Prop := ∃ v, e = .returned (.tuple #[v, erV (lmC t s)]) ∧ GotCs w' v (cuL t s)
/-- The two cells of a cut. -/
def cf (S : Option Addr) (n c : Nat) (y : Int) (i : Nat) : Value := if i = 0 then .slice S n c else .int .i64 y
theorem lmL_len2 {t : Tsk} {s : List Int} (hr : Right t) : (lmL t s).length ≤ 4096 := by
 have h := alN_len hr.dom t.vars.length (Nat.le_refl _)
 have hn := hr.nv
 have h2 : (alF t.vars).length ≤ 4096 := by show (alN _ _).length ≤ _; omega
 unfold lmL
 split
 ·exact Nat.le_trans (List.length_filter_le _ _) h2
 ·simp
theorem row_new2 (w : World) (x y : Value) (T : TypeId) : (w.alloc (.cells #[x, y] T)).rowIs w.heap.size T 2 (fun i => if i = 0 then x else y) :=
 ⟨#[x, y], heap_alloc_new w _, rfl, fun i hi => by
  rcases i with _ | _ | i
  ·rfl
  ·rfl
  ·exact absurd hi (by omega)⟩

set_option maxRecDepth 100000 in
set_option maxHeartbeats 8000000 in
theorem lcuts_any (t : Tsk) (q : LiesF) (G : Nat) (s : List Int) (AS : Option Addr) (cs : Nat) (w : World) (hF : FindAt w G t q) (hs : IntsAt w w.heap.size AS s) (hr : Right t) :
  Calls Tryz.prog 13 #[.pointer (some ⟨G, 0, none⟩), .slice AS s.length cs] w fun e w' => CutRet t s e w' ∧ Below w.heap.size w w' := by
 have K1 := Lib.hid (lfacts_any t q G s AS cs w hF hs hr)
 have K2 := Lib.hid (fun (a : Int × Int) wx (hb : Below w.heap.size w wx) hst => achs_any t q G s AS cs a wx (hF.up hb) (hs.up hb) hst hr)
 have hln := lmL_len2 (s := s) hr
 have o64 := hr.no
 have HR := Lib.hid hr
 have hst0 : lmC t s = 0 → stB t.vars s = true := fun h => by
  cases e : stB t.vars s
  ·unfold lmC at h; rw [e] at h; cases h
  ·rfl
 have HG := Lib.hid (show ∀ e w', CutRet t s e w' ↔ ∃ v, e = .returned (.tuple #[v, erV (lmC t s)]) ∧ GotCs w' v (cuN t s (lmL t s) 1125899906842624 (lmL t s).length) from fun e w' => Iff.rfl)
 have HFo := Lib.hid (show ∀ e w', FacRet t s e w' → ∃ v, e = .returned (.tuple #[v, erV (lmC t s)]) ∧ GotFs w' v (lmL t s) from fun e w' h => h)
 have hnil : lmC t s ≠ 0 → lmL t s = [] := fun h => by unfold lmL; rw [if_neg h]
 obtain ⟨F, hFe⟩ : ∃ F, lmL t s = F := ⟨_, rfl⟩
 rw [hFe] at hln HG HFo hnil
 obtain ⟨inf, hi, iz0, iz1, iz2⟩ := info_parts infoCu
 clear hr hFe
 by_cases hc : lmC t s = 0
 case neg =>
  have HF0 := Lib.hid (hnil hc)
  have Hne := Lib.hid (show erV (lmC t s) = .iface 49 (.int .i64 (lmC t s)) by unfold erV; rw [if_neg hc])
  clear hc K2 hst0 hnil hF
  go_enter Tryz.func13, Tryz.ntmps13
  go_wp2_with fail
  refine K1.out.mono ?_
  rintro e w1 ⟨hr1, hb1⟩
  obtain ⟨v1, rfl, A1, c1, rfl, _, hf1⟩ := HFo.out _ _ hr1
  rw [Hne.out]
  have HR1 := Lib.hid ((HG.out (.returned (.tuple #[.slice none 0 0, erV (lmC t s)])) w1).2 ⟨_, rfl, by rw [HF0.out]; exact gotCs_nil _⟩)
  clear hr1 hf1
  go_wp2
  refine bodyPost_ret (v := .tuple #[.slice none 0 0, .iface 49 (.int .i64 (lmC t s))]) (by simp [results, Tryz.results13, go_sem]) rfl ⟨?_, hb1⟩
  rw [← Hne.out]
  exact HR1.out
 have Hst := Lib.hid (hst0 hc)
 have Hc := Lib.hid hc
 obtain ⟨av, ag, ac, au, cv, cg, cc, cu⟩ := q
 obtain ⟨q0, q1, q2, q3, q4, q5, q6, q7, q8⟩ := hF
 dsimp only at *
 clear hc hst0 hnil q1 q2 q4 q5 q6 q8
 go_enter Tryz.func13, Tryz.ntmps13
 go_wp2_with fail
 refine K1.out.mono ?_
 rintro e w1 ⟨hr1, hbw1⟩
 obtain ⟨v1, rfl, A1, c1, rfl, _, hf1⟩ := HFo.out _ _ hr1
 rw [Hc.out, erV_0]
 have Hf1 := Lib.hid hf1
 have z1 := hbw1.size
 clear hr1 hf1
 go_wp2
 go_loopw [8, 25] (fun v i wr => ∃ (k : Nat), k ≤ F.length ∧ i = .int .i64 k ∧ Hid (CuRow wr w1.heap.size v (cuN t s F 1125899906842624 k)) ∧ Below w1.heap.size w1 wr) (fun _ i _ => F.length - (intOf i).toNat)
 case atStart => exact ⟨0, by omega, rfl, Lib.hid (CuRow.nil _ _), Below.refl _ _⟩
 case round =>
  obtain ⟨k, hk, rfl, hrow, hbel⟩ := hrel
  have hbz := hbel.size
  have hbwr : Below w.heap.size w wr := hbw1.trans (hbel.mono z1)
  have hcl := cuN_len (t := t) (s := s) (F := F) (M := 1125899906842624) k
  obtain ⟨A0, c0, rfl, hA0, hC0⟩ := hrow.out.got (by omega)
  have HC0 := Lib.hid hC0
  clear hC0
  by_cases hlt : k < F.length
  ·obtain ⟨b1, o1, ea, hb1, hc1⟩ := Hf1.out.at_ hlt
   subst ea
   have d1 := (hbel.cell (p := ⟨b1, o1 + k * 2, none⟩) hb1).trans (hc1 k hlt).1
   have d2 := (hbel.cell (p := ⟨b1, o1 + k * 2 + 1, none⟩) hb1).trans (hc1 k hlt).2
   have g1 : b1 < wr.heap.size := by omega
   have k0 : (0 : Int) ≤ (k : Int) := by omega
   have k1 : (k : Int) < (F.length : Int) := by omega
   obtain ⟨wo, rfl⟩ : ∃ wo : World, wo = wr := ⟨_, rfl⟩
   have hbA : Below wo.heap.size wo (wo.alloc (.cells #[.int .i64 (fv F k), .int .i64 (fx F k)] 75)) := (Below.refl _ _).alloc (Nat.le_refl _) _
   have K3 := Lib.hid (K2.out (fac F k) _ (hbwr.trans (hbA.mono hbwr.size)) Hst.out)
   clear hc1
   go_wp2_with fail
   refine K3.out.mono ?_
   rintro e w3 ⟨⟨v3, rfl, S, c3, rfl, hS3, hI3, hlo3⟩, hb3⟩
   have hbo3 : Below wo.heap.size wo w3 := hbA.trans (hb3.mono (by simp))
   have hb13 := hbel.trans (hbo3.mono hbz)
   have z3 : wo.heap.size < w3.heap.size := by have := hb3.size; simp at this; omega
   have hl3 : ∀ a, S = some a → wo.heap.size < a.block := fun a e => by have := hlo3 a e; simp at this; omega
   obtain ⟨O, hO⟩ : ∃ O, ach t s (fac F k) = O := ⟨_, rfl⟩
   have Horg := Lib.hid (show ∀ i, i < O.length → 0 ≤ nth O i ∧ nth O i < t.ops.length from fun i hi => by rw [← hO] at hi ⊢; exact ach_rng hi)
   have hOl : O.length ≤ t.ops.length := by rw [← hO]; exact ach_len
   have Hyes := Lib.hid (fun h => cuN_yes (t := t) (s := s) (F := F) (M := 1125899906842624) (k := k) h)
   have Hno := Lib.hid (fun h => cuN_no (t := t) (s := s) (F := F) (M := 1125899906842624) (k := k) h)
   have hmk : mkC t s 1125899906842624 (fac F k) = ⟨O, mnC t O 1125899906842624 O.length⟩ := by unfold mkC; rw [hO]
   rw [hO] at Hyes Hno hI3
   rw [hmk] at Hno
   rw [hO]
   have HI3 := Lib.hid hI3
   have Hl3 := Lib.hid hl3
   have Hrow3 := Lib.hid (hrow.out.up hbo3)
   have Hrw := hrow
   have hbB : Below w3.heap.size w3 (w3.alloc (.cells #[.slice S O.length c3, .int .i64 1125899906842624] 41)) := (Below.refl _ _).alloc (Nat.le_refl _) _
   have hbo4 := hbo3.trans (hbB.mono hbo3.size)
   have HX := Lib.hid (row_new2 w3 (.slice S O.length c3) (.int .i64 1125899906842624) 41)
   have K4 := Lib.hid (cuCon_any (cuN t s F 1125899906842624 k) O A0 S c0 c3 w3.heap.size (w3.alloc (.cells #[.slice S O.length c3, .int .i64 1125899906842624] 41)) (HC0.out.up hbo4) (hI3.up hbB) (HX.out.cell (i := 0) (by omega)) (by simp))
   clear hI3 hl3 hlo3 d1 d2 g1 K3 hO hmk hrow hA0
   cases e5 : thB (cuN t s F 1125899906842624 k) O (cuN t s F 1125899906842624 k).length
   case true =>
    have Hs := Lib.hid (Hyes.out e5)
    rw [e5] at K4
    clear Hyes Hno e5
    go_wp2_with fail
    refine K4.out.mono ?_
    rintro e w5 ⟨rfl, hb5⟩
    have hbo5 := hbo4.trans (hb5.mono (by have := hbo3.size; simp; omega))
    go_wp2
    go_roundw
    case rel => exact ⟨k + 1, by omega, by go_num, Lib.hid (by rw [Hs.out]; exact Hrw.out.up hbo5), hbel.trans (hbo5.mono hbz)⟩
    case measure => simp [intOf]; omega
   have Hs := Lib.hid (Hno.out e5)
   rw [e5] at K4
   clear Hyes Hno e5
   go_wp2_with fail
   refine K4.out.mono ?_
   rintro e w5 ⟨rfl, hb5⟩
   have hb35 : Below w3.heap.size w3 w5 := hbB.trans (hb5.mono (by simp))
   have hX5 := row_up HX.out hb5
   have z5 : w3.heap.size < w5.heap.size := by have := hb5.size; simp at this; omega
   have u0 := hX5.cell (i := 0) (by omega)
   simp only [↓reduceIte] at u0
   have HX5 : Hid (w5.rowIs w3.heap.size 41 2 (cf S O.length c3 1125899906842624)) := hX5
   clear hX5 hb5
   go_wp2
   go_loopw [40] (fun i wr => ∃ (j : Nat) (y : Int), j ≤ O.length ∧ i = .int .i64 j ∧ Hid (y = mnC t O 1125899906842624 j) ∧ Hid (wr.rowIs w3.heap.size 41 2 (cf S O.length c3 y)) ∧ Hid (w3.heap.size < wr.heap.size) ∧ Below w3.heap.size w3 wr) (fun i _ => O.length - (intOf i).toNat)
   case atStart => exact ⟨0, _, by omega, rfl, Lib.hid rfl, HX5, Lib.hid z5, hb35⟩
   case round =>
    clear u0
    obtain ⟨j, y, hj, rfl, hy, hX, hz, hb3r⟩ := hrel
    have hzr := hz.out
    have hbor : Below wo.heap.size wo wr := hbo3.trans (hb3r.mono hbo3.size)
    have hbw := hbwr.trans (hbor.mono hbwr.size)
    have u0 := hX.out.cell (i := 0) (by omega)
    have u1 := hX.out.cell (i := 1) (by omega)
    have u2 := hX.out.frozen 1
    simp only [cf, ↓reduceIte, Nat.one_ne_zero] at u0 u1
    by_cases hltj : j < O.length
    ·obtain ⟨bs, os, es, hbs, hcs⟩ := HI3.out.at_ hltj
     subst es
     obtain ⟨x, hx⟩ : ∃ x : Nat, nth O j = (x : Int) := ⟨(nth O j).toNat, by have := Horg.out j hltj; omega⟩
     have hxl : x < t.ops.length := by have := Horg.out j hltj; omega
     have d0 := (hb3r.cell (p := ⟨bs, os + j, none⟩) hbs).trans (hcs j hltj)
     rw [hx] at d0
     obtain ⟨bc, oc, ec, hbc, hcc⟩ := q7.at_ (k := x) (by rw [cosN_len]; exact hxl)
     subst ec
     have d1 := (hbw.cell (p := ⟨bc, oc + x, none⟩) hbc).trans (hcc x (by rw [cosN_len]; exact hxl))
     rw [cosN_nth hxl] at d1
     have d2 := (hbw.cell (p := ⟨G, 2, none⟩) q0).trans q3
     have gs : bs < wr.heap.size := by omega
     have gc : bc < wr.heap.size := by have := hbw.size; omega
     have gG : G < wr.heap.size := by have := hbw.size; omega
     have j0 : (0 : Int) ≤ (j : Int) := by omega
     have j1 : (j : Int) < (O.length : Int) := by omega
     have x0 : (0 : Int) ≤ (x : Int) := by omega
     have x1 : (x : Int) < (t.ops.length : Int) := by omega
     have HM := Lib.hid (show mnC t O 1125899906842624 (j + 1) = min y (opr t.ops x).cost by rw [mnC_succ, ← hy.out, hx]; simp)
     have hcl5 := cosN_len t t.ops.length
     clear hcs hcc hx hcl5
     obtain ⟨Cx, hCx⟩ : ∃ C, (opr t.ops x).cost = C := ⟨_, rfl⟩
     rw [hCx] at d1 HM
     clear hCx
     go_wp2_with fail
     refine wp_region_G 9 (fun w' => w'.cell? ⟨w3.heap.size, 1, none⟩ = some (.int .i64 y) ∧ w'.cell? ⟨G, 2, none⟩ = some (.slice (some ⟨bc, oc, none⟩) t.ops.length cc) ∧ w'.cell? ⟨bc, oc + x, none⟩ = some (.int .i64 Cx)) (by kernel_rfl) (⟨u1, d2, d1⟩) ?_
     intro hG0
     refine wpS1 0 hG0 ?_; intro hG1; clear hG0
     refine wpS2 1 hG1 ?_; intro hG2; clear hG1
     refine wpS1 2 hG2 ?_; intro hG3; clear hG2
     refine wpS1 3 hG3 ?_; intro hG4; clear hG3
     refine wpS1 4 hG4 ?_; intro hG5; clear hG4
     refine wpS2 5 hG5 ?_; intro hG6; clear hG5
     refine wpS1 6 hG6 ?_; intro hG7; clear hG6
     refine wpS1 7 hG7 ?_; intro hG8; clear hG7
     refine wpS2 8 hG8 ?_; intro hG9; clear hG8
     refine wpAnyG_ready (rs := [9]) (by kernel_rfl) (by simp) (AllG.cons rfl hG9 (fun K hK => ?_) AllG.nil)
     (go_simp)
     refine hK.out _ _ (Or.inl rfl) (fun hG10 => wpN ?_); clear hK hG9
     refine wpS1 10 hG10 ?_; intro hG11; clear hG10
     refine wpAnyG_ready (rs := [11]) (by kernel_rfl) (by simp) (AllG.cons rfl hG11 (fun K hK => ?_) AllG.nil)
     (go_simp)
     refine hK.out _ _ (Or.inl rfl) (fun hG12 => wpN ?_); clear hK hG11
     refine wpAnyG_done (by kernel_rfl) ?_ _; clear hG12
     go_wp2
     go_roundw
     case rel => exact ⟨j + 1, min y Cx, by omega, by go_num, Lib.hid HM.out.symm, Lib.hid (row_up ((hX.out.set 1 (.int .i64 (min y Cx))).congr (g := cf (some ⟨bs, os, none⟩) O.length c3 (min y Cx)) (fun i hi => by unfold cf; rcases i with _ | _ | i <;> first | rfl | exact absurd hi (by omega))) (Below.refl _ _).drew), Lib.hid (by show _ < (World.setCell _ _ _).heap.size; simpa [World.setCell] using hzr), (hb3r.setCell (p := ⟨w3.heap.size, 1, none⟩) (Nat.le_refl _) _).drew⟩
     case measure => simp [intOf]; omega
    ·obtain rfl : j = O.length := by omega
     obtain ⟨xs, ho, hx⟩ := Hrw.out.up hbor
     have hne : IntsNe wr (Value.slice A0 (cuN t s F 1125899906842624 k).length c0).ownBlock S O := ⟨HI3.out.up hb3r, fun a e _ e2 => by
      obtain ⟨_, ho1, _⟩ := Hrw.out
      have h1 := (ho1.lt a.block e2.symm).2
      have h2 := Hl3.out a e
      omega⟩
     have HN := Lib.hid hne
     have Ho := Lib.hid ho
     have Hx := Lib.hid hx
     have hb1r := hb13.trans (hb3r.mono hb13.size)
     have hz1r := hb1r.size
     have Hy := hy
     clear ho hx hne
     go_wp2_with (at_builtin; refine wpList_push rfl _ _ 42 rfl w1.heap.size 41 inf (.agg #[.slice none 0 0, .int .i64 0]) 2 32 undCu hi iz0 iz1 iz2 rfl (by decide) (by decide) _ (cuN t s F 1125899906842624 k).length xs rfl (Ho.out.alloc _) wr.heap.size 41 [.slice S O.length c3, .int .i64 y] rfl rfl (heap_alloc_new _ _) (two_one rfl rfl) (by omega) (by first | omega | (simp; omega)) (B := w1.heap.size) (W := w1) (hb1r.alloc hz1r _) (Nat.le_refl _) ?_; intro v' w8 hown' hgrow hat hbw8; have Hown := Lib.hid hown'; have Hgrow := Lib.hid hgrow; have Hat := Lib.hid hat; clear hown' hgrow hat)
     have Hrow8 := Lib.hid (CuRow.push (Ho.out.alloc (.cells #[.slice S O.length c3, .int .i64 y] 41)) (fun i hi => by obtain ⟨S', c', h1, h2, h3⟩ := Hx.out i hi; exact ⟨S', c', h1, h2.up ((Below.refl _ _).alloc (Nat.le_refl _) _), h3⟩) (u := ⟨O, y⟩) (S := S) (c := c3) (HN.out.up ((Below.refl _ _).alloc (Nat.le_refl _) _)) Hgrow.out Hat.out Hown.out)
     go_wp2
     go_roundw
     case rel => exact ⟨k + 1, by omega, by go_num, Lib.hid (by rw [Hs.out, ← Hy.out]; exact Hrow8.out), hbw8⟩
     case measure => simp [intOf]; omega
  ·obtain rfl : k = F.length := by omega
   have HP := Lib.hid ((HG.out (.returned (.tuple #[.slice A0 (cuN t s F 1125899906842624 F.length).length c0, .nilIface])) wr).2 ⟨_, by rw [Hc.out, erV_0], A0, c0, rfl, hA0, HC0.out⟩)
   clear hrow
   go_wp2
   refine bodyPost_ret (v := .tuple #[.slice A0 (cuN t s F 1125899906842624 F.length).length c0, .nilIface]) (by simp [results, Tryz.results13, go_sem]) rfl ⟨HP.out, hbwr⟩
end

end Go.Proofs.YtaampjhdgeoicaaGreat

/- Texts laid together: FracU, FracV, FracX, Mat, Own, Cif, RowGe, Clone, App, LpP, LpQ, LpS, LpO, Cuts, Kw. -/
import Derived.Test.YtaampjhdgeoicaaGreatMfA
import Derived.Test.YtaampjhdgeoicaaGreatMfB
import Derived.LoopTactic
import Derived.Deep.RegionHeld3
import Derived.Deep.LoopGhost
import Derived.Deep.DeepCutAuto
import Derived.Deep.OwnRows
import Derived.Maps.AppendAt
import Derived.Deep.AppendLies
import Derived.Lib.BufferMore
import Derived.Laws.AppendOwnNone
namespace Go.Proofs.YtaampjhdgeoicaaGreat
set_option linter.unusedSimpArgs false
set_option linter.unusedVariables false
section
open Go.RowKit
set_option linter.unusedVariables false

/-- Fractions added from the left. -/
def sumS : List (Int × Int) → Int → Int → Int × Int × Int
 | [], n, d => (n, d, 0)
 | f :: r, n, d => if (addF n d f.1 f.2).2.2 = 0 then sumS r (addF n d f.1 f.2).1 (addF n d f.1 f.2).2.1 else (0, 0, (addF n d f.1 f.2).2.2)
def sumF (l : List (Int × Int)) : Int × Int × Int := sumS l 0 1
def SumIs (l : List (Int × Int)) (k : Nat) (n d : Int) : Prop := sumF l = sumS (l.drop k) n d
theorem drop_fv {l : List (Int × Int)} {k : Nat} (h : k < l.length) : l.drop k = (fv l k, fx l k) :: l.drop (k + 1) := by
 have e : (fv l k, fx l k) = l[k] := by unfold fv fx; simp [List.getD, List.getElem?_eq_getElem h]
 rw [e, List.drop_eq_getElem_cons h]
theorem sum_step {l : List (Int × Int)} {k : Nat} {n d p q : Int} (h : SumIs l k n d) (hk : k < l.length) (h0 : addF n d (fv l k) (fx l k) = (p, q, 0)) : SumIs l (k + 1) p q := by
 unfold SumIs at *
 rw [h, drop_fv hk]
 conv => lhs; unfold sumS
 rw [h0]; rfl
theorem sum_stop {l : List (Int × Int)} {k : Nat} {n d p q c : Int} (h : SumIs l k n d) (hk : k < l.length) (h0 : addF n d (fv l k) (fx l k) = (p, q, c)) (hc : c ≠ 0) : sumF l = (0, 0, c) := by
 unfold SumIs at *
 rw [h, drop_fv hk]
 conv => lhs; unfold sumS
 rw [h0]
 exact if_neg hc
theorem sum_end {l : List (Int × Int)} {n d : Int} (h : SumIs l l.length n d) : sumF l = (n, d, 0) := by
 unfold SumIs at h
 rw [h, List.drop_length]; rfl
theorem errV_ne {c : Int} (h : c ≠ 0) : errV c = .iface 49 (.int .i64 c) := by unfold errV; rw [if_neg h]

/-- A fraction of the call's own in block b. -/
structure Own2 (w : World) (b : Nat) (n d : Int) : Prop where
 lt : b < w.heap.size
 c0 : w.cell? ⟨b, 0, none⟩ = some (.int .i64 n)
 c1 : w.cell? ⟨b, 1, none⟩ = some (.int .i64 d)
 f0 : w.frozen? ⟨b, 0, none⟩ = false
 f1 : w.frozen? ⟨b, 1, none⟩ = false

section
variable {w w' : World} {b b' : Nat} {n d p q : Int}
theorem Own2.alloc (h : Own2 w b n d) (o : Obj) : Own2 (w.alloc o) b n d :=
 have hb : Below w.heap.size w (w.alloc o) := (Below.refl _ _).alloc (Nat.le_refl _) _
 ⟨by simp; have := h.lt; omega, (hb.cell (p := ⟨b, 0, none⟩) h.lt).trans h.c0, (hb.cell (p := ⟨b, 1, none⟩) h.lt).trans h.c1, (hb.frozen (p := ⟨b, 0, none⟩) h.lt).trans h.f0, (hb.frozen (p := ⟨b, 1, none⟩) h.lt).trans h.f1⟩
theorem Own2.new {T : TypeId} : Own2 (w.alloc (.cells #[.int .i64 n, .int .i64 d] T)) w.heap.size n d := by constructor <;> first | (simp; done) | (simp; omega)
theorem Own2.drew (h : Own2 w b n d) : Own2 w.drew b n d := ⟨h.lt, h.c0, h.c1, h.f0, h.f1⟩
theorem Own2.up (h : Own2 w b n d) (hb : Below w.heap.size w w') : Own2 w' b n d :=
 ⟨Nat.lt_of_lt_of_le h.lt hb.size, (hb.cell (p := ⟨b, 0, none⟩) h.lt).trans h.c0, (hb.cell (p := ⟨b, 1, none⟩) h.lt).trans h.c1, (hb.frozen (p := ⟨b, 0, none⟩) h.lt).trans h.f0, (hb.frozen (p := ⟨b, 1, none⟩) h.lt).trans h.f1⟩
theorem Own2.put (h : Own2 w b n d) : Own2 ((w.setCell ⟨b, 0, none⟩ (.int .i64 p)).setCell ⟨b, 1, none⟩ (.int .i64 q)) b p q where
 lt := by simpa using h.lt
 c0 := by rw [World.cell?_setCell_other _ _ _ _ (by simp)]; exact World.cell?_setCell_same _ _ _ h.c0
 c1 := World.cell?_setCell_same _ _ _ (u := .int .i64 d) (by rw [World.cell?_setCell_other _ _ _ _ (by simp)]; exact h.c1)
 f0 := by simpa using h.f0
 f1 := by simpa using h.f1
theorem Own2.other (h : Own2 w b n d) (hb : b' ≠ b) {x y : Value} : Own2 ((w.setCell ⟨b', 0, none⟩ x).setCell ⟨b', 1, none⟩ y) b n d where
 lt := by simpa using h.lt
 c0 := by rw [World.cell?_setCell_other _ _ _ _ (by simp [hb]), World.cell?_setCell_other _ _ _ _ (by simp [hb])]; exact h.c0
 c1 := by rw [World.cell?_setCell_other _ _ _ _ (by simp [hb]), World.cell?_setCell_other _ _ _ _ (by simp [hb])]; exact h.c1
 f0 := by simpa using h.f0
 f1 := by simpa using h.f1
end

set_option maxRecDepth 4000 in
set_option maxHeartbeats 2000000 in
theorem sum_any (l : List (Int × Int)) (A : Option Addr) (c : Nat) (w : World) (hl : FactsAt w w.heap.size A l) :
  Calls Tryz.prog 73 #[.slice A l.length c] w (RetFE (sumF l) w) := by
 have l1 := hl.len
 go_enter Tryz.func73, Tryz.ntmps73
 go_wp2
 go_loopw [12] (fun i wr => ∃ (k : Nat) (n d m e : Int), k ≤ l.length ∧ i = .int .i64 k ∧ Own2 wr w.heap.size m e ∧ Own2 wr (w.heap.size + 1) n d ∧ SumIs l k n d ∧ Below w.heap.size w wr) (fun i _ => l.length - (intOf i).toNat)
 case atStart => exact ⟨0, 0, 1, 0, 0, by omega, rfl, by constructor <;> first | (simp; done) | (simp; omega), by constructor <;> first | (simp; done) | (simp; omega), rfl, by exact bel⟩
 case round =>
  obtain ⟨k, n, d, m, e, hk, rfl, hr, hq, hs, hbel⟩ := hrel
  obtain ⟨r0, r1, r2, r3, r4⟩ := id hr
  obtain ⟨s0, s1, s2, s3, s4⟩ := id hq
  have Hs := Lib.hid hs
  clear hs
  by_cases hlt : k < l.length
  ·obtain ⟨b, o, rfl, hb, hc⟩ := hl.at_ hlt
   have d1 := (hbel.cell (p := ⟨b, o + k * 2, none⟩) hb).trans (hc k hlt).1
   have d2 := (hbel.cell (p := ⟨b, o + k * 2 + 1, none⟩) hb).trans (hc k hlt).2
   have hbz := hbel.size
   clear hc
   have k1 := fun W => add_any n d (fv l k) (fx l k) W
   obtain ⟨⟨p, q, code⟩, hx⟩ : ∃ r, addF n d (fv l k) (fx l k) = r := ⟨_, rfl⟩
   rw [hx] at k1
   have Hr := Lib.hid hx
   clear hx
   by_cases h0 : code = 0
   ·subst h0
    unfold RetFE at k1
    simp only [errV_0] at k1
    go_wp2_with fail; refine (k1 _).mono ?_; rintro e w1 ⟨rfl, hb1⟩; obtain ⟨hc1, hf1, hz1, hlt1, hle1⟩ := cellsIf hb1 (by (try simp); exact rfl); (try have := s00 w w1); (try have := s01 w w1); (try have := s02 w w1); (try have := s10 w w1); (try have := s11 w w1); (try have := s12 w w1); (try have := s20 w w1); (try have := s21 w w1); (try have := s22 w w1)
    go_wp2
    go_roundw
    case rel => exact ⟨k + 1, p, q, m, e, by omega, by go_num, (((hr.alloc _).up hb1).other (by omega)).alloc _, (((hq.alloc _).up hb1).put).alloc _, sum_step Hs.out hlt Hr.out, by exact bel⟩
    case measure => simp [intOf]; omega
   ·have He := Lib.hid (sum_stop Hs.out hlt Hr.out h0)
    have Hv := Lib.hid (errV_ne h0)
    unfold RetFE at k1
    simp only [Hv.out] at k1
    clear h0
    go_wp2_with fail; refine (k1 _).mono ?_; rintro e w1 ⟨rfl, hb1⟩; obtain ⟨hc1, hf1, hz1, hlt1, hle1⟩ := cellsIf hb1 (by (try simp); exact rfl); (try have := s00 w w1); (try have := s01 w w1); (try have := s02 w w1); (try have := s10 w w1); (try have := s11 w w1); (try have := s12 w w1); (try have := s20 w w1); (try have := s21 w w1); (try have := s22 w w1)
    go_wp2
    refine bodyPost_ret (v := .tuple #[.agg #[.int .i64 0, .int .i64 0], .iface 49 (.int .i64 code)]) (by simp [results, Tryz.results73, go_sem, ↓IntWalk.iteOmega, *]) rfl (RetFE.mk (by rw [He.out, ← Hv.out]) ?_)
    exact bel
  ·obtain rfl : k = l.length := by omega
   have He := Lib.hid (sum_end Hs.out)
   go_wp2
   refine bodyPost_ret (v := .tuple #[.agg #[.int .i64 n, .int .i64 d], .nilIface]) (by simp [results, Tryz.results73, go_sem, ↓IntWalk.iteOmega, *]) rfl (RetFE.mk (by rw [He.out]; rfl) ?_)
   exact bel

set_option maxRecDepth 4000 in
set_option maxHeartbeats 2000000 in
theorem rsum_any (l : List (Int × Int)) (A : Option Addr) (c : Nat) (w : World) (hl : FactsAt w w.heap.size A l) :
  Calls Tryz.prog 52 #[.slice A l.length c] w (RetFC (sumF l) w) := by
 have l1 := hl.len
 go_enter Tryz.func52, Tryz.ntmps52
 go_wp2
 go_loopw [11] (fun i wr => ∃ (k : Nat) (n d m e : Int), k ≤ l.length ∧ i = .int .i64 k ∧ Own2 wr w.heap.size m e ∧ Own2 wr (w.heap.size + 1) n d ∧ SumIs l k n d ∧ Below w.heap.size w wr) (fun i _ => l.length - (intOf i).toNat)
 case atStart => exact ⟨0, 0, 1, 0, 0, by omega, rfl, by constructor <;> first | (simp; done) | (simp; omega), by constructor <;> first | (simp; done) | (simp; omega), rfl, by exact bel⟩
 case round =>
  obtain ⟨k, n, d, m, e, hk, rfl, hr, hq, hs, hbel⟩ := hrel
  obtain ⟨r0, r1, r2, r3, r4⟩ := id hr
  obtain ⟨s0, s1, s2, s3, s4⟩ := id hq
  have Hs := Lib.hid hs
  clear hs
  by_cases hlt : k < l.length
  ·obtain ⟨b, o, rfl, hb, hc⟩ := hl.at_ hlt
   have d1 := (hbel.cell (p := ⟨b, o + k * 2, none⟩) hb).trans (hc k hlt).1
   have d2 := (hbel.cell (p := ⟨b, o + k * 2 + 1, none⟩) hb).trans (hc k hlt).2
   have hbz := hbel.size
   have g1 : (k : Int) < l.length := by omega
   have g2 : b < wr.heap.size := by omega
   clear hc
   have k1 := fun W => radd_any n d (fv l k) (fx l k) W
   obtain ⟨⟨p, q, code⟩, hx⟩ : ∃ r, addF n d (fv l k) (fx l k) = r := ⟨_, rfl⟩
   rw [hx] at k1
   have Hr := Lib.hid hx
   clear hx
   unfold RetFC at k1
   dsimp only at k1
   have Hbel := Lib.hid hbel
   go_upto_region 5 with fail
   go_cut [6, 7] (fun v6 v7 wx => ∃ b6, v6 = .pointer (some ⟨b6, 0, none⟩) ∧ v7 = .int .i64 code ∧ Own2 wx b6 p q ∧ Own2 wx w.heap.size m e ∧ Own2 wx (w.heap.size + 1) n d ∧ w.heap.size + 1 < b6 ∧ Below w.heap.size w wx)
   case first =>
    go_wp2_with fail
    go_region_held3 (fun w' => w'.cell? ⟨w.heap.size + 1, 0, none⟩ = some (.int .i64 n) ∧ w'.cell? ⟨w.heap.size + 1, 1, none⟩ = some (.int .i64 d) ∧ w'.cell? ⟨b, o + k * 2, none⟩ = some (.int .i64 (fv l k)) ∧ w'.cell? ⟨b, o + k * 2 + 1, none⟩ = some (.int .i64 (fx l k))) (first | go_keep | (refine ⟨?_, ?_, ?_, ?_⟩ <;> (first | assumption | (rw [World.cell?_setCell_other _ _ _ _ (by first | (simp; done) | (simp; omega)), World.cell?_setCell_other _ _ _ _ (by first | (simp; done) | (simp; omega))]; first | assumption | (simp [*]; done) | (rw [World.cell?_alloc_past _ _ _ _ _ (by omega)]; assumption)) | (simp [*, World.cell?_alloc_some]; done) | (rw [World.cell?_alloc_past _ _ _ _ _ (by omega)]; assumption)))) (first | (go_at_call 86; refine (k1 _).mono ?_; rintro e w1 ⟨rfl, hb1⟩; have hbw1 : Below wr.heap.size wr w1 := (by exact bel); have z1 := (hbw1.cell (p := ⟨b, o + k * 2, none⟩) g2).trans d1; have z2 := (hbw1.cell (p := ⟨b, o + k * 2 + 1, none⟩) g2).trans d2; have z3 := (hbw1.cell (p := ⟨w.heap.size + 1, 0, none⟩) s0).trans s1; have z4 := (hbw1.cell (p := ⟨w.heap.size + 1, 1, none⟩) s0).trans s2; have z5 := hbw1.size; obtain ⟨hc1, hf1, hz1, hlt1, hle1⟩ := cellsIf hb1 (by (try simp); exact rfl)))
    all_goals (go_wp2; go_meet)
    all_goals first
     | exact ⟨_, rfl, rfl, Own2.new, (hr.up hbw1).alloc _, (hq.up hbw1).alloc _, by omega, by exact bel⟩
     | exact ⟨_, rfl, rfl, Own2.put (Own2.up (Own2.drew Own2.new) hb1), (hr.up hbw1).other (by omega), (hq.up hbw1).other (by omega), by omega, by exact bel⟩
   case rest =>
    obtain ⟨b6, rfl, rfl, ho6, hr', hq', hb6, hbel'⟩ := hcut
    obtain ⟨t0, t1, t2, t3, t4⟩ := id ho6
    obtain ⟨r0, r1, r2, r3, r4⟩ := id hr'
    obtain ⟨s0, s1, s2, s3, s4⟩ := id hq'
    by_cases h0 : code = 0
    ·subst h0
     go_wp2
     go_roundw
     case rel => exact ⟨k + 1, p, q, m, e, by omega, by go_num, hr'.other (by omega), hq'.put, sum_step Hs.out hlt Hr.out, by exact bel⟩
     case measure => simp [intOf]; omega
    ·have He := Lib.hid (sum_stop Hs.out hlt Hr.out h0)
     have e1 : ((code : Int) != 0) = true := by simpa using h0
     clear h0
     go_wp2
     refine bodyPost_ret (v := .tuple #[.agg #[.int .i64 0, .int .i64 0], .int .i64 code]) (by simp [results, Tryz.results52, go_sem, ↓IntWalk.iteOmega, *]) rfl (RetFC.mk (by rw [He.out]) ?_)
     exact bel
  ·obtain rfl : k = l.length := by omega
   have He := Lib.hid (sum_end Hs.out)
   go_wp2
   refine bodyPost_ret (v := .tuple #[.agg #[.int .i64 n, .int .i64 d], .int .i64 0]) (by simp [results, Tryz.results52, go_sem, ↓IntWalk.iteOmega, *]) rfl (RetFC.mk (by rw [He.out]) ?_)
   exact bel
end

section
open Go.RowKit
set_option linter.unusedVariables false

def sm (l : List Int) : Int := l.foldl (· + ·) 0
theorem tdiv_abs {n g : Int} (hg : 1 ≤ g) : aI (n.tdiv g) ≤ aI n := by
 unfold aI
 rw [Int.natAbs_tdiv]
 exact Int.ofNat_le.2 (Nat.div_le_self n.natAbs g.natAbs)
/-- A small numerator, a small denominator: New makes a proper fraction. -/
theorem newF_small {n d : Int} (h1 : -1099511627776 ≤ n) (h2 : n ≤ 1099511627776) (hd : 1 ≤ d) (h3 : d ≤ 1048576) : ∃ p q, newF n d = (p, q, 0) ∧ prB p q = true ∧ Rat.divInt p q = Rat.divInt n d := by
 have hr := newF_rat n d (by omega) (by omega) (by omega)
 have hg : 1 ≤ gI n d := by have := gI_pos n d (by omega); omega
 have e1 := num_pos n d hd
 have e2 := den_pos n d hd
 have a1 : aI (Rat.divInt n d).num ≤ 1099511627776 := by
  rw [e1]; have := tdiv_abs (n := n) hg; unfold aI at *; omega
 have a2 : ((Rat.divInt n d).den : Int) ≤ 1048576 := by
  rw [e2]
  have := Int.ediv_le_self (gI n d) (show 0 ≤ d by omega)
  omega
 obtain ⟨t1, t2⟩ := toF_ok _ a1 a2
 exact ⟨_, _, hr.trans t1, t2, Rat.num_divInt_den _⟩
/-- Fractions as cells. -/
def fc (l : List (Int × Int)) : List Value := l.flatMap fun f => [.int .i64 f.1, .int .i64 f.2]
theorem fc_app (a b : List (Int × Int)) : fc (a ++ b) = fc a ++ fc b := by unfold fc; rw [List.flatMap_append]
theorem fc_len (l : List (Int × Int)) : (fc l).length = l.length * 2 := by
 induction l with
 | nil => rfl
 | cons f l ih => show (_ :: _ :: fc l).length = _; simp only [List.length_cons, ih]; omega
theorem fc_get : ∀ (l : List (Int × Int)) (k : Nat), k < l.length → (fc l)[k * 2]? = some (.int .i64 (fv l k)) ∧ (fc l)[k * 2 + 1]? = some (.int .i64 (fx l k))
 | f :: l, 0, _ => ⟨rfl, rfl⟩
 | f :: l, k + 1, h => by
  obtain ⟨h1, h2⟩ := fc_get l k (by simp at h; omega)
  have e : fc (f :: l) = .int .i64 f.1 :: .int .i64 f.2 :: fc l := rfl
  rw [e, show (k + 1) * 2 = k * 2 + 1 + 1 by omega]
  exact ⟨h1, h2⟩
theorem fc_one {l : List (Int × Int)} : ∀ u ∈ fc l, u.oneCell' = true := by
 intro u hu
 unfold fc at hu
 simp at hu
 obtain ⟨a, b, _, rfl | rfl⟩ := hu <;> rfl
theorem infoC : (Tryz.prog.info? 45).map (fun i => (i.zero, i.size, i.bytes)) = some (some (.agg #[.int .i64 0, .int .i64 0]), 2, 16) := by kernel_rfl
theorem undC : Tryz.prog.underlying 37 = some (.slice 45) := by kernel_rfl
/-- A row of fractions of the call's own, read. -/
theorem own_fracs {w : World} {B : Nat} {v : Value} {l : List (Int × Int)} (h : w.ownsRow B 45 2 v l.length (fc l)) (hl : l.length ≤ 140737488355328) : ∃ A c, v = .slice A l.length c ∧ (A = none → c = 0) ∧ FactsAt w w.heap.size A l := by
 rcases h.2 with ⟨rfl, h0⟩ | ⟨b, cap, cur, rfl, hb, hg, hh⟩
 ·rw [h0]; exact ⟨none, 0, rfl, fun _ => rfl, hl, fun hn => absurd hn (by omega)⟩
 ·refine ⟨_, cap, rfl, fun e => (by cases e), hl, fun _ => ⟨b, 0, rfl, (Array.getElem?_eq_some_iff.1 hg).1, fun k hk => ?_⟩⟩
  have h1 := h.cells (g := b) rfl (k * 2) _ (fc_get l k hk).1
  have h2 := h.cells (g := b) rfl (k * 2 + 1) _ (fc_get l k hk).2
  refine ⟨?_, ?_⟩
  ·simp [Addr.add] at h1
   split at h1
   ·rename_i h0; have h3 : k = 0 := by omega
    subst h3; simpa using h1
   ·simpa using h1
  ·simpa [Addr.add] using h2
end

section
set_option linter.unusedVariables false

/-- A proper fraction and its value. -/
def Fr (p q : Int) (r : Rat) : Prop := prB p q = true ∧ Rat.divInt p q = r
theorem Fr.add {p q m e : Int} {r s : Rat} (h1 : Fr p q r) (h2 : Fr m e s) : addF p q m e = toF (r + s) := by rw [addF_rat h1.1 h2.1, h1.2, h2.2]
theorem Fr.sub {p q m e : Int} {r s : Rat} (h1 : Fr p q r) (h2 : Fr m e s) : subF p q m e = toF (r - s) := by rw [subF_rat h1.1 h2.1, h1.2, h2.2]
theorem Fr.mul {p q m e : Int} {r s : Rat} (h1 : Fr p q r) (h2 : Fr m e s) : mulF p q m e = toF (r * s) := by unfold mulF; rw [h1.1, h2.1, h1.2, h2.2]; rfl
theorem Fr.zero {p q : Int} {r : Rat} (h : Fr p q r) : p = 0 ↔ r = 0 := by
 have hb := prB_bounds h.1
 have hr := (prB_rat h.1).1
 rw [h.2] at hr
 constructor
 ·rintro rfl; rw [← h.2]; exact Rat.zero_divInt _
 ·rintro rfl; rw [← hr]; rfl
theorem Fr.div {p q m e : Int} {r s : Rat} (h1 : Fr p q r) (h2 : Fr m e s) : divF p q m e = if m = 0 then (0, 0, 22) else toF (r * s⁻¹) := by
 unfold divF
 rw [h1.1, h2.1, h1.2, ← h2.2, Rat.inv_divInt]
 rfl

end

section
open Go Go.RowKit
set_option linter.unusedVariables false

section
variable {w w' : World} {b : Nat} {t : TypeId} {n : Nat} {f g : Nat → Value}
theorem row_up (h : w.rowIs b t n f) (hb : Below w.heap.size w w') : w'.rowIs b t n f := h.of_block (hb.block b h.lt)
theorem row_grown {row : Option Nat} (h : w.rowIs b t n f) (hg : w.grownBy w' row) (hr : some b ≠ row) : w'.rowIs b t n f := h.of_block (hg.block b h.lt hr)
end

/-- A table of booleans: row j lies in block rb j, its length L j; the slices of the rows in block g. -/
structure MatIs (w : World) (g n : Nat) (rb L : Nat → Nat) (M : Nat → Nat → Bool) : Prop where
 glt : g < w.heap.size
 top : ∀ j, j < n → w.cell? ⟨g, j, none⟩ = some (.slice (some ⟨rb j, 0, none⟩) (L j) (L j))
 row : ∀ j, j < n → w.rowIs (rb j) 4 (L j) fun c => .bool (M j c)
 inj : ∀ i j, i < n → j < n → rb i = rb j → i = j
 ne : ∀ j, j < n → rb j ≠ g
section
variable {w w' : World} {g n : Nat} {rb L : Nat → Nat} {M : Nat → Nat → Bool}
theorem MatIs.of (h : MatIs w g n rb L M) (hs : w.heap.size ≤ w'.heap.size) (hg : w'.heap[g]? = w.heap[g]?) (hr : ∀ j, j < n → w'.heap[rb j]? = w.heap[rb j]?) : MatIs w' g n rb L M :=
 ⟨Nat.lt_of_lt_of_le h.glt hs, fun j hj => (World.cell?_of_block (w := w) (a := ⟨g, j, none⟩) hg).trans (h.top j hj), fun j hj => (h.row j hj).of_block (hr j hj), h.inj, h.ne⟩
theorem MatIs.up (h : MatIs w g n rb L M) (hb : Below w.heap.size w w') : MatIs w' g n rb L M :=
 h.of hb.size (hb.block _ h.glt) fun j hj => hb.block _ (h.row j hj).lt
theorem MatIs.alloc (h : MatIs w g n rb L M) (o : Obj) : MatIs (w.alloc o) g n rb L M := h.up ((Below.refl _ _).alloc (Nat.le_refl _) _)
theorem MatIs.drew (h : MatIs w g n rb L M) : MatIs w.drew g n rb L M := h.up (Below.refl _ _).drew
theorem MatIs.congr {M' : Nat → Nat → Bool} (h : MatIs w g n rb L M) (e : ∀ j, j < n → ∀ c, c < L j → M j c = M' j c) : MatIs w g n rb L M' :=
 ⟨h.glt, h.top, fun j hj => (h.row j hj).congr fun c hc => by rw [e j hj c hc], h.inj, h.ne⟩
/-- A store into row v. -/
theorem MatIs.put (h : MatIs w g n rb L M) {v u : Nat} (hv : v < n) (x : Bool) : MatIs (w.setCell ⟨rb v, u, none⟩ (.bool x)) g n rb L (fun j c => if j = v ∧ c = u then x else M j c) :=
 ⟨by simpa [World.setCell] using h.glt, fun j hj => (World.cell?_setCell_other _ _ _ _ (fun e => h.ne v hv (congrArg Addr.block e))).trans (h.top j hj), fun j hj => by
  by_cases e : j = v
  ·subst e
   exact ((h.row j hj).set u _).congr fun c hc => by by_cases e : c = u <;> simp [e]
  ·exact ((h.row j hj).setOther (fun e2 => e (h.inj j v hj hv e2)) _).congr fun c hc => by simp [e], h.inj, h.ne⟩
theorem MatIs.put_true (h : MatIs w g n rb L M) {v u : Nat} (hv : v < n) {M' : Nat → Nat → Bool} (e : ∀ j, j < n → ∀ c, c < L j → (M j c || (j == v && c == u)) = M' j c) : MatIs (w.setCell ⟨rb v, u, none⟩ (.bool true)) g n rb L M' :=
 (h.put hv true).congr fun j hj c hc => by
  rw [← e j hj c hc]
  by_cases e1 : j = v <;> by_cases e2 : c = u <;> simp [e1, e2]
theorem MatIs.cell (h : MatIs w g n rb L M) {v u : Nat} (hv : v < n) (hu : u < L v) : w.cell? ⟨rb v, u, none⟩ = some (.bool (M v u)) := (h.row v hv).cell hu
theorem MatIs.frozen (h : MatIs w g n rb L M) {v : Nat} (u : Nat) (hv : v < n) : w.frozen? ⟨rb v, u, none⟩ = false := (h.row v hv).frozen u
theorem MatIs.rlt (h : MatIs w g n rb L M) {v : Nat} (hv : v < n) : rb v < w.heap.size := (h.row v hv).lt
end
theorem infoB : (Tryz.prog.info? 4).map (fun i => (i.zero, i.size, i.bytes)) = some (some (.bool false), 1, 1) := by kernel_rfl
theorem infoBs : (Tryz.prog.info? 137).map (fun i => (i.zero, i.size, i.bytes)) = some (some (.slice none 0 0), 1, 24) := by kernel_rfl
end

section
open Go Go.RowKit
set_option linter.unusedVariables false

section
variable {w w1 wr : World} {B : Nat} {e : TypeId} {s : Nat} {v : Value} {n : Nat} {xs : List Value}
theorem own_below (h : wr.ownsRow B e s v n xs) (hb : Below wr.heap.size wr w1) : w1.ownsRow B e s v n xs :=
 h.kept (row := none) ⟨hb.os, hb.tape, hb.output, hb.size, fun k hk _ => hb.block k hk⟩ (by cases v.ownBlock <;> simp)
theorem own_built (w : World) (cur : Array Value) (n : Nat) (hb : B ≤ w.heap.size) (hm : n ≤ maxLen) (hs : cur.size = n * s) : (w.alloc (.cells cur e)).ownsRow B e s (.slice (some ⟨w.heap.size, 0, none⟩) n n) n cur.toList :=
 ⟨by simpa using hs, .inr ⟨w.heap.size, n, cur, rfl, hb, heap_alloc_new w _, Nat.le_refl _, hm, hs, by rw [← hs, show cur.size = cur.toList.length by simp, List.take_length]⟩⟩
theorem grown_below2 {w : World} (hb : Below B w wr) (hB : B ≤ w.heap.size) (ho : wr.ownsRow B e s v n xs) (hg : wr.grownBy w1 v.ownBlock) : Below B w w1 :=
 hb.grown hg (Nat.le_trans hB hb.size) fun k hk => (ho.lt k hk).1
theorem two_one {x y : Value} (h0 : x.oneCell' = true) (h1 : y.oneCell' = true) : ∀ u ∈ [x, y], u.oneCell' = true := by intro u hu; simp at hu; rcases hu with rfl | rfl <;> assumption
theorem one_one {x : Value} (h0 : x.oneCell' = true) : ∀ u ∈ [x], u.oneCell' = true := by intro u hu; simp at hu; subst hu; assumption
/-- Blocks of different element types are different. -/
theorem row_own_ne {w : World} {b : Nat} {t : TypeId} {m : Nat} {f : Nat → Value} (hr : w.rowIs b t m f) (h : w.ownsRow B e s v n xs) (hne : t ≠ e) : some b ≠ v.ownBlock := by
 obtain ⟨c, hb, _⟩ := hr
 rcases h.2 with ⟨rfl, _⟩ | ⟨g, cap, cur, rfl, _, hg, _⟩
 ·simp [Value.ownBlock]
 ·intro he
  have : g = b := by simpa [Value.ownBlock] using he.symm
  subst this
  rw [hb] at hg
  injection hg with hg
  injection hg with _ ht
  exact hne ht
end

section
variable {P : Program} {w : World}
/-- The cells of a block that is known whole. -/
theorem cells_of_block {H : Nat} {news : List Value} {T : TypeId} (h : w.heap[H]? = some (.cells news.toArray T (0, 0))) : ∀ j u, news[j]? = some u → w.cell? ((⟨H, 0, none⟩ : Addr).add j) = some u := by
 intro j u hu
 have h1 := cell_of_row w H j news.toArray T (0, 0) h
 rw [show news.toArray[j]? = news[j]? by simp, hu] at h1
 simp only [Addr.add]
 split
 ·rename_i h0; subst h0; exact h1
 ·rw [Nat.zero_add]; exact h1
/-- append of one element, laid into a block of its own, to a row of the call's own. -/
theorem wpList_push {ops : Array Oper} {rest : List Oper} {o : Oper} {a : Act} {Q : Exit → Act → World → Prop} (hgd : o.guard = .none) (s x : Operand) (t : TypeId)
  (ho : o.op = .call { callee := .builtin .append, args := #[s, x], argTypes := #[t, t] })
  (base : Nat) (e : TypeId) (i : TypeInfo) (z : Value) (size bytes : Nat) (ht : P.underlying t = some (.slice e)) (hi : P.info? e = some i) (hz : i.zero = some z)
  (hsize : i.size = size) (hby : i.bytes = bytes) (hzs : z.cells.size = size) (hsz : 0 < size) (hbs : bytes ≤ 1000)
  (v : Value) (n : Nat) (xs : List Value) (hs : a.eval s = v) (hown : w.ownsRow base e size v n xs)
  (H : Nat) (T : TypeId) (news : List Value) (hx : a.eval x = .slice (some ⟨H, 0, none⟩) 1 1) (hl : news.length = size) (hH : w.heap[H]? = some (.cells news.toArray T (0, 0))) (h1 : ∀ u ∈ news, u.oneCell' = true)
  (hn : n ≤ 10000000) (hbase : base ≤ w.heap.size) {W : World} {B : Nat} (hB : Below B W w) (hBb : B ≤ base)
  (h : ∀ v' w', w'.ownsRow base e size v' (n + 1) (xs ++ news) → w.grownBy w' v.ownBlock → (v'.ownBlock = v.ownBlock ∨ v'.ownBlock = some w.heap.size) → Below B W w' → wpList P ops Q rest (a.put o.dst v') w') :
  wpList P ops Q (o :: rest) a w := by
 have hn1 : (n + 1) * bytes ≤ 140737488355328 := Nat.le_trans (Nat.mul_le_mul (show n + 1 ≤ 10000001 by omega) hbs) (by decide)
 refine wpList_append_own_at w hgd s x t ho base e i z size bytes ht hi hz hsize hby hzs hsz v n xs hs hown ⟨H, 0, none⟩ 1 1 news hx (by rw [hl, Nat.one_mul]) (cells_of_block hH) h1 (by unfold maxLen; omega) hn1 hbase ?_
 intro v' w' h2 h3 _ h5
 exact h v' w' h2 h3 h5 (hB.grown h3 (by omega) fun k hk => Nat.le_trans hBb ((hown.lt k hk).1))
end

/-- A slice of fractions as a result. -/
def GotFs (w : World) (v : Value) (l : List (Int × Int)) : Prop := ∃ A c, v = .slice A l.length c ∧ (A = none → c = 0) ∧ FactsAt w w.heap.size A l
theorem gotFs_nil (w : World) : GotFs w (.slice none 0 0) [] := ⟨none, 0, rfl, fun _ => rfl, by simp, fun h => absurd h (by simp)⟩
def RetFs (l : List (Int × Int)) (cv : Value) (w : World) (e : Ending) (w' : World) : Prop := (∃ v, e = .returned (.tuple #[v, cv]) ∧ GotFs w' v l) ∧ Below w.heap.size w w'
end

section
open Go Go.RowKit
set_option linter.unusedVariables false

theorem own_shape {W : World} {B s n : Nat} {e : TypeId} {v : Value} {xs : List Value} (h : W.ownsRow B e s v n xs) : ∃ A c, v = .slice A n c := by
 rcases h.2 with ⟨rfl, h0⟩ | ⟨b, cap, cur, rfl, hb, hg, hh⟩
 ·exact ⟨none, 0, by rw [h0]⟩
 ·exact ⟨some ⟨b, 0, none⟩, cap, rfl⟩
theorem own_set {W : World} {B s n : Nat} {e : TypeId} {v u : Value} {xs : List Value} {p : Addr} (h : W.ownsRow B e s v n xs) (hp : p.block < B) : (W.setCell p u).ownsRow B e s v n xs := by
 rcases h.2 with ⟨rfl, h0⟩ | ⟨g, cap, cur, hv, hb, hg, hh⟩
 ·exact ⟨h.1, .inl ⟨rfl, h0⟩⟩
 ·exact ⟨h.1, .inr ⟨g, cap, cur, hv, hb, (Below.heap_setCell _ _ _ _ (by omega)).trans hg, hh⟩⟩
/-- Rules with 'if' for the walk. -/
theorem cif {B : Nat} {W x : World} (hb : Below B W x) : ∀ b o, x.cell? ⟨b, o, none⟩ = if b < B then W.cell? ⟨b, o, none⟩ else hidC x b o := fun b o => by
 split
 ·exact hb.cell (p := ⟨b, o, none⟩) (by assumption)
 ·rfl
end

section
open Go Go.RowKit
set_option linter.unusedVariables false

/-- Block b is a row of elements of one cell, type t; the first n cells hold f. -/
def rowGe (w : World) (b : Nat) (t : TypeId) (n : Nat) (f : Nat → Value) : Prop :=
 ∃ c : Array Value, w.heap[b]? = some (.cells c t (0, 0)) ∧ n ≤ c.size ∧ ∀ i, i < n → c[i]? = some (f i)
section
variable {w w' : World} {b : Nat} {t : TypeId} {n : Nat} {f g : Nat → Value}
theorem rowGe.cell (h : rowGe w b t n f) {i : Nat} (hi : i < n) : w.cell? ⟨b, i, none⟩ = some (f i) := by
 obtain ⟨c, hb, _, hc⟩ := h
 simp [World.cell?, hb, hc i hi]
theorem rowGe.frozen (h : rowGe w b t n f) (i : Nat) : w.frozen? ⟨b, i, none⟩ = false := by
 obtain ⟨c, hb, _, _⟩ := h
 simp [World.frozen?, hb]
theorem rowGe.lt (h : rowGe w b t n f) : b < w.heap.size := by
 obtain ⟨c, hb, _, _⟩ := h
 exact (Array.getElem?_eq_some_iff.1 hb).1
theorem rowGe.congr (h : rowGe w b t n f) (e : ∀ i, i < n → f i = g i) : rowGe w b t n g := by
 obtain ⟨c, hb, hn, hc⟩ := h
 exact ⟨c, hb, hn, fun i hi => by rw [hc i hi, e i hi]⟩
theorem rowGe.of_block (h : rowGe w b t n f) (e : w'.heap[b]? = w.heap[b]?) : rowGe w' b t n f := by
 obtain ⟨c, hb, hn, hc⟩ := h
 exact ⟨c, e.trans hb, hn, hc⟩
theorem rowGe.set (h : rowGe w b t n f) (i : Nat) (v : Value) : rowGe (w.setCell ⟨b, i, none⟩ v) b t n (fun j => if j = i then v else f j) := by
 obtain ⟨c, hb, hn, hc⟩ := h
 refine ⟨c.setIfInBounds i v, ?_, by simpa using hn, fun j hj => ?_⟩
 ·simp [World.setCell, Array.getElem?_modify, hb]
 ·rw [Array.getElem?_setIfInBounds]
  by_cases e : j = i
  ·subst e
   simp; omega
  ·rw [if_neg (fun h => e h.symm)]
   show c[j]? = some (if j = i then v else f j)
   rw [if_neg e]
   exact hc j hj
theorem rowGe.up (h : rowGe w b t n f) (hb : Below w.heap.size w w') : rowGe w' b t n f := h.of_block (hb.block b h.lt)
theorem rowGe.alloc (h : rowGe w b t n f) (o : Obj) : rowGe (w.alloc o) b t n f := h.up ((Below.refl _ _).alloc (Nat.le_refl _) _)
theorem rowGe.grown {row : Option Nat} (h : rowGe w b t n f) (hg : w.grownBy w' row) (hr : some b ≠ row) : rowGe w' b t n f := h.of_block (hg.block b h.lt hr)
theorem rowGe.ne {B : Nat} {e : TypeId} {s m : Nat} {v : Value} {xs : List Value} (hr : rowGe w b t n f) (h : w.ownsRow B e s v m xs) (hne : t ≠ e) : some b ≠ v.ownBlock := by
 obtain ⟨c, hb, _⟩ := hr
 rcases h.2 with ⟨rfl, _⟩ | ⟨g, cap, cur, rfl, _, hg, _⟩
 ·simp [Value.ownBlock]
 ·intro he
  have : g = b := by simpa [Value.ownBlock] using he.symm
  subst this
  rw [hb] at hg
  injection hg with hg
  injection hg with _ ht
  exact hne ht
theorem own_mono2 {B B' : Nat} {e : TypeId} {s m : Nat} {v : Value} {xs : List Value} (h : w.ownsRow B e s v m xs) (hb : B' ≤ B) : w.ownsRow B' e s v m xs :=
 ⟨h.1, h.2.imp id fun ⟨g, cap, cur, h1, h2, h3⟩ => ⟨g, cap, cur, h1, Nat.le_trans hb h2, h3⟩⟩
/-- An own row of elements of one cell: its address, and what its cells are. -/
theorem rowGe_own {B : Nat} {v : Value} {xs : List Value} (h : w.ownsRow B t 1 v n xs) (f : Nat → Value) (hf : ∀ i, i < n → xs[i]? = some (f i)) : ∃ A c, v = .slice A n c ∧ (0 < n → ∃ g, A = some ⟨g, 0, none⟩ ∧ B ≤ g ∧ rowGe w g t n f) := by
 have hl := h.1
 rcases h.2 with ⟨rfl, h0⟩ | ⟨g, cap, cur, rfl, hb, hg, hnc, hcm, hcs, htk⟩
 ·exact ⟨none, 0, by rw [h0], fun hp => absurd hp (by omega)⟩
 ·refine ⟨_, cap, rfl, fun _ => ⟨g, rfl, hb, cur, hg, by omega, fun i hi => ?_⟩⟩
  have h1 := hf i hi
  rw [← htk, List.getElem?_take, if_pos (by omega)] at h1
  simpa using h1
end
end

section
open Go.RowKit
set_option linter.unusedVariables false

theorem infoIc : (Tryz.prog.info? 3).map (fun i => (i.zero, i.size, i.bytes)) = some (some (.int .i64 0), 1, 8) := by kernel_rfl
theorem undIc : Tryz.prog.underlying 22 = some (.slice 3) := by kernel_rfl

/-- A list of numbers as cells. -/
def ic (l : List Int) : List Value := l.map (.int .i64)
theorem ic_get {l : List Int} {k : Nat} (h : k < l.length) : (ic l)[k]? = some (.int .i64 (nth l k)) := by unfold ic nth; simp [List.getD, List.getElem?_eq_getElem h]
/-- A row of the call's own, read as a list of numbers. -/
theorem own_ints {w : World} {B : Nat} {v : Value} {l : List Int} (h : w.ownsRow B 3 1 v l.length (ic l)) (hl : l.length ≤ 140737488355328) : ∃ A c, v = .slice A l.length c ∧ IntsAt w w.heap.size A l := by
 rcases h.2 with ⟨rfl, h0⟩ | ⟨b, cap, cur, rfl, hb, hg, hh⟩
 ·rw [h0]; exact ⟨none, 0, rfl, hl, fun hn => absurd hn (by omega)⟩
 ·refine ⟨_, cap, rfl, hl, fun _ => ⟨b, 0, rfl, (Array.getElem?_eq_some_iff.1 hg).1, fun k hk => ?_⟩⟩
  have := h.cells (g := b) rfl k _ (ic_get hk)
  simp [Addr.add] at this
  split at this
  ·rename_i h0; subst h0; exact this
  ·simpa using this

set_option maxRecDepth 4000 in
set_option maxHeartbeats 1000000 in
theorem clone_any (s : List Int) (A : Option Addr) (c : Nat) (w : World) (h : IntsAt w w.heap.size A s) (hs : s.length ≤ 1000000) :
  Calls Tryz.prog 29 #[.slice A s.length c] w fun e w' => (∃ v, e = .returned v ∧ w'.ownsRow w.heap.size 3 1 v s.length (ic s)) ∧ Below w.heap.size w w' := by
 obtain ⟨inf, hi, hz0, hz1, hz2⟩ := info_parts infoIc
 have hA : A = none → s = [] := fun e => by
  rcases Nat.eq_zero_or_pos s.length with h0 | h0
  ·exact List.length_eq_zero_iff.1 h0
  ·obtain ⟨b, off, e2, _⟩ := h.2 h0; rw [e] at e2; cases e2
 cases A with
 | none =>
  obtain rfl := hA rfl
  have heq : ∀ w', (binOp .eql 22 (.slice none ([] : List Int).length c) (.slice none 0 0)).run Tryz.prog w' = .ok (.bool true) w' := fun w' => Lib.run_eql_slice_nil_nil w' _ c undIc
  simp only [List.length_nil] at heq ⊢
  go_enter Tryz.func29, Tryz.ntmps29
  go_wp2
  go_ret
  exact ⟨⟨_, rfl, World.ownsRow_nil _ _ _ _⟩, by exact bel⟩
 | some ad =>
  have hcells : ∀ (j : Nat) (u : Value), (ic s)[j]? = some u → w.cell? (ad.add j) = some u := fun j u hj => by
   have hlt : j < s.length := by have := (List.getElem?_eq_some_iff.1 hj).1; simpa [ic] using this
   obtain ⟨b, off, e2, _, hc⟩ := h.2 (by omega)
   rw [ic_get hlt] at hj
   cases hj
   cases e2
   have := hc j hlt
   simp [Addr.add]
   split
   ·rename_i h0; subst h0; simpa using this
   ·simpa using this
  have hlt : ∀ j, j < s.length → (ad.add j).block < w.heap.size := fun j hj => by
   obtain ⟨b, off, e2, hb, _⟩ := h.2 (by omega)
   cases e2
   simp [Addr.add]; split <;> exact hb
  have Hn := Lib.hid (show ∀ (o : Obj) (j : Nat) (u : Value), (ic s)[j]? = some u → (w.alloc o).cell? (ad.add j) = some u from fun o j u hj =>
   (((Below.refl w.heap.size w).alloc (Nat.le_refl _) o).cell (hlt j (by have := (List.getElem?_eq_some_iff.1 hj).1; simpa [ic] using this))).trans (hcells j u hj))
  clear hcells hlt hA
  have heq : ∀ w', (binOp .eql 22 (.slice (some ad) s.length c) (.slice none 0 0)).run Tryz.prog w' = .ok (.bool false) w' := fun w' => Lib.run_eql_slice_some_nil w' ad _ c undIc
  go_enter Tryz.func29, Tryz.ntmps29
  go_wp2_with (at_builtin; refine wpList_append_own _ rfl _ _ 22 rfl w.heap.size 3 inf (.int .i64 0) 1 8 undIc hi hz0 hz1 hz2 rfl (by decide) _ 0 [] rfl (World.ownsRow_made w #[] 0 (Nat.le_refl _) (by simp [maxLen]) rfl) ad s.length c (ic s) rfl (by simp [ic]) (Hn.out _) (by intro u hu; simp [ic] at hu; obtain ⟨x, _, rfl⟩ := hu; rfl) (by unfold maxLen; omega) (by omega) (by simp) ?_; intro v' w1 hown' hgrow _; simp only [Nat.zero_add, List.nil_append] at hown'; have hb1 : Below w.heap.size w w1 := grown_below2 (s := 1) (Below.alloc (Below.refl _ _) (Nat.le_refl _) _) (Nat.le_refl _) (World.ownsRow_made w #[] 0 (Nat.le_refl _) (by simp [maxLen]) rfl) hgrow; have Hown := Lib.hid hown'; clear hgrow hown')
  go_ret
  exact ⟨⟨_, rfl, Hown.out⟩, hb1⟩
end

section
open Go.RowKit

/-- A slice whose cells hold the values news (size cells an element). -/
structure SrcAt (w : World) (A : Option Addr) (m c size : Nat) (news : List Value) : Prop where
 none : A = none → m = 0 ∧ c = 0
 len : news.length = m * size
 cells : ∀ ad, A = some ad → ∀ j u, news[j]? = some u → w.cell? (ad.add j) = some u
 one : ∀ u ∈ news, u.oneCell' = true

section
variable {P : Program} {w : World}
theorem grown_refl (row : Option Nat) : w.grownBy w row := ⟨rfl, rfl, rfl, Nat.le_refl _, fun _ _ _ => rfl⟩

theorem wp_append_src {o : Oper} {a : Act} {K : Act → World → Prop} {Q : Exit → Act → World → Prop} (s x : Operand) (t : TypeId)
  (ho : o.op = .call { callee := .builtin .append, args := #[s, x], argTypes := #[t, t] })
  (base : Nat) (e : TypeId) (i : TypeInfo) (z : Value) (size bytes : Nat) (ht : P.underlying t = some (.slice e)) (hi : P.info? e = some i) (hz : i.zero = some z)
  (hsize : i.size = size) (hby : i.bytes = bytes) (hzs : z.cells.size = size) (hsz : 0 < size)
  (v : Value) (n : Nat) (xs : List Value) (hs : a.eval s = v) (hown : w.ownsRow base e size v n xs)
  (A : Option Addr) (m c : Nat) (news : List Value) (hx : a.eval x = .slice A m c) (hsrc : SrcAt w A m c size news)
  (h63 : n + m ≤ maxLen) (hbytes : (n + m) * bytes ≤ 140737488355328) (hbase : base ≤ w.heap.size)
  (h : ∀ v' w', w'.ownsRow base e size v' (n + m) (xs ++ news) → w.grownBy w' v.ownBlock → (v'.ownBlock = v.ownBlock ∨ v'.ownBlock = some w.heap.size) → K (a.put o.dst v') w') : o.wp P a w K Q := by
 cases A with
 | none =>
  obtain ⟨rfl, rfl⟩ := hsrc.none rfl
  have hn : news = [] := List.length_eq_zero_iff.1 (by rw [hsrc.len]; simp)
  subst hn
  have hr := run_append_owned_none (P := P) (w := w) base t o.type e i size ht hi v n xs hown
  unfold Oper.wp execOp
  simp only [ho, resolve, invoke, builtin, Sem.run_bind, Sem.run_pure, Result.andThen_ok, List.map_toArray, List.map_cons, List.map_nil, hs, hx, hr]
  exact h v w (by simpa using hown) (grown_refl _) (.inl rfl)
 | some ad =>
  obtain ⟨v', w', hr, h2, h3, _, h5⟩ := run_append_own_at (P := P) w base t o.type e i z size bytes ht hi hz hsize hby hzs hsz v n xs hown ad m c news hsrc.len (hsrc.cells ad rfl) hsrc.one h63 hbytes hbase
  unfold Oper.wp execOp
  simp only [ho, resolve, invoke, builtin, Sem.run_bind, Sem.run_pure, Result.andThen_ok, List.map_toArray, List.map_cons, List.map_nil, hs, hx, hr]
  exact h v' w' h2 h3 h5

theorem wpList_append_src {ops : Array Oper} {rest : List Oper} {o : Oper} {a : Act} {Q : Exit → Act → World → Prop} (hgd : o.guard = .none) (s x : Operand) (t : TypeId)
  (ho : o.op = .call { callee := .builtin .append, args := #[s, x], argTypes := #[t, t] })
  (base : Nat) (e : TypeId) (i : TypeInfo) (z : Value) (size bytes : Nat) (ht : P.underlying t = some (.slice e)) (hi : P.info? e = some i) (hz : i.zero = some z)
  (hsize : i.size = size) (hby : i.bytes = bytes) (hzs : z.cells.size = size) (hsz : 0 < size)
  (v : Value) (n : Nat) (xs : List Value) (hs : a.eval s = v) (hown : w.ownsRow base e size v n xs)
  (A : Option Addr) (m c : Nat) (news : List Value) (hx : a.eval x = .slice A m c) (hsrc : SrcAt w A m c size news)
  (h63 : n + m ≤ maxLen) (hbytes : (n + m) * bytes ≤ 140737488355328) (hbase : base ≤ w.heap.size)
  (h : ∀ v' w', w'.ownsRow base e size v' (n + m) (xs ++ news) → w.grownBy w' v.ownBlock → (v'.ownBlock = v.ownBlock ∨ v'.ownBlock = some w.heap.size) → wpList P ops Q rest (a.put o.dst v') w') :
  wpList P ops Q (o :: rest) a w :=
 wpList_plain hgd fun _ hK => wp_append_src s x t ho base e i z size bytes ht hi hz hsize hby hzs hsz v n xs hs hown A m c news hx hsrc h63 hbytes hbase fun v' w' h2 h3 h4 => hK _ _ (h v' w' h2 h3 h4)

theorem step_append_src {ops : Array Oper} {o : Oper} {a : Act} {K : Act → World → Prop} {Q : Exit → Act → World → Prop} {E : Prop} (hgd : o.guard = .none) (s x : Operand) (t : TypeId)
  (ho : o.op = .call { callee := .builtin .append, args := #[s, x], argTypes := #[t, t] })
  (base : Nat) (e : TypeId) (i : TypeInfo) (z : Value) (size bytes : Nat) (ht : P.underlying t = some (.slice e)) (hi : P.info? e = some i) (hz : i.zero = some z)
  (hsize : i.size = size) (hby : i.bytes = bytes) (hzs : z.cells.size = size) (hsz : 0 < size)
  (v : Value) (n : Nat) (xs : List Value) (hs : a.eval s = v) (hown : w.ownsRow base e size v n xs)
  (A : Option Addr) (m c : Nat) (news : List Value) (hx : a.eval x = .slice A m c) (hsrc : SrcAt w A m c size news)
  (h63 : n + m ≤ maxLen) (hbytes : (n + m) * bytes ≤ 140737488355328) (hbase : base ≤ w.heap.size)
  (h : ∀ v' w', w'.ownsRow base e size v' (n + m) (xs ++ news) → w.grownBy w' v.ownBlock → (v'.ownBlock = v.ownBlock ∨ v'.ownBlock = some w.heap.size) → K (a.put o.dst v') w') :
  if Region.wanted o (yielded ops a.tmps) = true then Oper.wp P o a w K Q else E := by
 have hw : Region.wanted o (yielded ops a.tmps) = true := by simp [Region.wanted, hgd]
 rw [if_pos hw]
 exact wp_append_src s x t ho base e i z size bytes ht hi hz hsize hby hzs hsz v n xs hs hown A m c news hx hsrc h63 hbytes hbase h
end

/-- Numbers as a source. -/
theorem ints_srcAt {w : World} {B : Nat} {A : Option Addr} {l : List Int} {c : Nat} (h : IntsAt w B A l) (hA : A = none → c = 0) : SrcAt w A l.length c 1 (l.map (.int .i64)) where
 none := fun e => by
  refine ⟨?_, hA e⟩
  rcases Nat.eq_zero_or_pos l.length with h0 | h0
  ·exact h0
  ·obtain ⟨b, off, e2, _⟩ := h.2 h0; rw [e] at e2; cases e2
 len := by simp
 cells := fun ad e j u hj => by
  have hlt : j < l.length := by have := (List.getElem?_eq_some_iff.1 hj).1; simpa using this
  obtain ⟨b, off, e2, _, hc⟩ := h.2 (by omega)
  rw [e] at e2
  cases e2
  have h1 := hc j hlt
  have h2 : u = .int .i64 (nth l j) := by
   rw [List.getElem?_map, List.getElem?_eq_getElem hlt] at hj
   cases hj
   unfold nth
   simp [List.getD, List.getElem?_eq_getElem hlt]
  subst h2
  simp [Addr.add]
  split
  ·rename_i h0; subst h0; simpa using h1
  ·simpa using h1
 one := fun u hu => by simp at hu; obtain ⟨x, _, rfl⟩ := hu; rfl
end

section
set_option linter.unusedVariables false

/-- The sum of the first n numbers. -/
def sg : Nat → (Nat → Rat) → Rat
 | 0, _ => 0
 | n + 1, f => sg n f + f n
theorem sg_congr {f g : Nat → Rat} : ∀ n, (∀ i, i < n → f i = g i) → sg n f = sg n g
 | 0, _ => rfl
 | n + 1, h => by unfold sg; rw [sg_congr n fun i hi => h i (by omega), h n (by omega)]
theorem sg_zero : ∀ n, sg n (fun _ => 0) = 0
 | 0 => rfl
 | n + 1 => by unfold sg; rw [sg_zero n]; grind
theorem sg_zero' {f : Nat → Rat} {n : Nat} (h : ∀ i, i < n → f i = 0) : sg n f = 0 := (sg_congr n h).trans (sg_zero n)
theorem sg_add (f g : Nat → Rat) : ∀ n, sg n (fun i => f i + g i) = sg n f + sg n g
 | 0 => by unfold sg; grind
 | n + 1 => by unfold sg; rw [sg_add f g n]; grind
theorem sg_sub (f g : Nat → Rat) : ∀ n, sg n (fun i => f i - g i) = sg n f - sg n g
 | 0 => by unfold sg; grind
 | n + 1 => by unfold sg; rw [sg_sub f g n]; grind
theorem sg_mul (c : Rat) (f : Nat → Rat) : ∀ n, sg n (fun i => c * f i) = c * sg n f
 | 0 => by unfold sg; grind
 | n + 1 => by unfold sg; rw [sg_mul c f n]; grind
theorem sg_one {f : Nat → Rat} {k : Nat} : ∀ n, k < n → (∀ i, i < n → i ≠ k → f i = 0) → sg n f = f k
 | 0, h, _ => absurd h (by omega)
 | n + 1, h, h0 => by
  unfold sg
  by_cases e : k = n
  ·subst e; rw [sg_zero' fun i hi => h0 i (by omega) (by omega)]; grind
  ·rw [sg_one n (by omega) fun i hi => h0 i (by omega), h0 n (by omega) (by omega)]; grind
theorem sg_comm (f : Nat → Nat → Rat) (m : Nat) : ∀ n, sg n (fun i => sg m (fun j => f i j)) = sg m (fun j => sg n (fun i => f i j))
 | 0 => (sg_zero m).symm
 | n + 1 => by
  show sg n (fun i => sg m (fun j => f i j)) + sg m (fun j => f n j) = sg m (fun j => sg n (fun i => f i j) + f n j)
  rw [sg_comm f m n, sg_add]
theorem sg_nonneg {f : Nat → Rat} : ∀ n, (∀ i, i < n → 0 ≤ f i) → 0 ≤ sg n f
 | 0, _ => by unfold sg; grind
 | n + 1, h => by unfold sg; have := sg_nonneg n fun i hi => h i (by omega); have := h n (by omega); grind
theorem sg_neg_ex {f : Nat → Rat} {n : Nat} (h : sg n f < 0) : ∃ i, i < n ∧ f i < 0 := by
 by_cases hh : ∃ i, i < n ∧ f i < 0
 ·exact hh
 ·have := sg_nonneg (f := f) n fun i hi => by
   have : ¬ f i < 0 := fun h2 => hh ⟨i, hi, h2⟩
   grind
  grind

/-- A tableau: coefficients, right-hand sides, the objective row, the value, the basic variables. -/
structure TB where
 a : Nat → Nat → Rat
 b : Nat → Rat
 c : Nat → Rat
 z : Rat
 B : Nat → Nat
def SolT (m n : Nat) (T : TB) (x : Nat → Rat) : Prop := ∀ i, i < m → sg n (fun j => T.a i j * x j) = T.b i
def ObjT (n : Nat) (T : TB) (x : Nat → Rat) : Rat := sg n (fun j => T.c j * x j) + T.z
structure Tab (m n : Nat) (T : TB) : Prop where
 lt : ∀ i, i < m → T.B i < n
 one : ∀ i, i < m → T.a i (T.B i) = 1
 off : ∀ i k, i < m → k < m → i ≠ k → T.a i (T.B k) = 0
 c0 : ∀ k, k < m → T.c (T.B k) = 0
 nonneg : ∀ i, i < m → 0 ≤ T.b i
structure Eqv (m n : Nat) (T U : TB) : Prop where
 sol : ∀ x, SolT m n T x ↔ SolT m n U x
 obj : ∀ x, SolT m n T x → ObjT n T x = ObjT n U x
theorem Eqv.refl (m n : Nat) (T : TB) : Eqv m n T T := ⟨fun _ => Iff.rfl, fun _ _ => rfl⟩
theorem Eqv.symm {m n : Nat} {T U : TB} (h : Eqv m n T U) : Eqv m n U T := ⟨fun x => (h.sol x).symm, fun x hx => (h.obj x ((h.sol x).2 hx)).symm⟩
theorem Eqv.trans {m n : Nat} {T U V : TB} (h : Eqv m n T U) (k : Eqv m n U V) : Eqv m n T V := ⟨fun x => (h.sol x).trans (k.sol x), fun x hx => (h.obj x hx).trans (k.obj x ((h.sol x).1 hx))⟩
theorem Tab.inj {m n : Nat} {T : TB} (h : Tab m n T) {i k : Nat} (hi : i < m) (hk : k < m) (e : T.B i = T.B k) : i = k := by
 by_cases hik : i = k
 ·exact hik
 ·have h1 := h.off i k hi hk hik
  rw [← e, h.one i hi] at h1
  exact absurd h1 (by decide)

/-- The variable that enters, the row that leaves (Bland's rule); the next tableau. -/
def Ent (n : Nat) (T : TB) (k : Nat) : Prop := k < n ∧ 0 < T.c k ∧ ∀ j, j < k → ¬ 0 < T.c j
def Lea (m : Nat) (T : TB) (k r : Nat) : Prop := r < m ∧ 0 < T.a r k ∧ ∀ i, i < m → 0 < T.a i k → T.b r / T.a r k < T.b i / T.a i k ∨ (T.b r / T.a r k = T.b i / T.a i k ∧ T.B r ≤ T.B i)
def piv (T : TB) (r k : Nat) : TB where
 a := fun i j => if i = r then T.a r j / T.a r k else T.a i j - T.a i k * (T.a r j / T.a r k)
 b := fun i => if i = r then T.b r / T.a r k else T.b i - T.a i k * (T.b r / T.a r k)
 c := fun j => T.c j - T.c k * (T.a r j / T.a r k)
 z := T.z + T.c k * (T.b r / T.a r k)
 B := fun i => if i = r then k else T.B i
theorem div_self' {a : Rat} (h : 0 < a) : a / a = 1 := by grind
theorem div_nonneg' {a b : Rat} (h : 0 ≤ a) (hb : 0 < b) : 0 ≤ a / b := by
 rw [Rat.div_def]
 exact Rat.mul_nonneg h (Rat.le_of_lt (Rat.inv_pos.2 hb))

theorem piv_tab {m n : Nat} {T : TB} (h : Tab m n T) {k r : Nat} (he : Ent n T k) (hl : Lea m T k r) : Tab m n (piv T r k) := by
 obtain ⟨hr, hp, hmin⟩ := hl
 have hne : T.a r k ≠ 0 := by grind
 have hkB : ∀ i, i < m → T.B i ≠ k := fun i hi e => by
  have := h.c0 i hi
  rw [e] at this
  have := he.2.1
  grind
 refine ⟨fun i hi => ?_, fun i hi => ?_, fun i j hi hj hij => ?_, fun i hi => ?_, fun i hi => ?_⟩
 ·show (if i = r then k else T.B i) < n
  split
  ·exact he.1
  ·exact h.lt i hi
 ·show (if i = r then T.a r (if i = r then k else T.B i) / T.a r k else T.a i (if i = r then k else T.B i) - T.a i k * (T.a r (if i = r then k else T.B i) / T.a r k)) = 1
  by_cases e : i = r
  ·simp only [e, ite_true]; exact div_self' hp
  ·simp only [if_neg e]
   rw [h.one i hi, h.off r i hr hi (Ne.symm e)]
   grind
 ·show (if i = r then T.a r (if j = r then k else T.B j) / T.a r k else T.a i (if j = r then k else T.B j) - T.a i k * (T.a r (if j = r then k else T.B j) / T.a r k)) = 0
  by_cases e : j = r
  ·subst e
   simp only [ite_true, if_neg hij]
   grind
  ·simp only [if_neg e]
   by_cases e2 : i = r
   ·subst e2
    simp only [ite_true]
    rw [h.off i j hi hj hij]; grind
   ·simp only [if_neg e2]
    rw [h.off i j hi hj hij, h.off r j hr hj (Ne.symm e)]; grind
 ·show T.c (if i = r then k else T.B i) - T.c k * (T.a r (if i = r then k else T.B i) / T.a r k) = 0
  by_cases e : i = r
  ·simp only [e, ite_true]; rw [div_self' hp]; grind
  ·simp only [if_neg e]; rw [h.c0 i hi, h.off r i hr hi (Ne.symm e)]; grind
 ·show 0 ≤ (if i = r then T.b r / T.a r k else T.b i - T.a i k * (T.b r / T.a r k))
  have h0 : 0 ≤ T.b r / T.a r k := div_nonneg' (h.nonneg r hr) hp
  split
  ·exact h0
  ·have hb := h.nonneg i hi
   by_cases hs : 0 < T.a i k
   ·have h1 : T.b r / T.a r k ≤ T.b i / T.a i k := by
     rcases hmin i hi hs with h2 | h2
     ·exact Rat.le_of_lt h2
     ·rw [h2.1]; exact Rat.le_refl
    have h2 : T.a i k * (T.b r / T.a r k) ≤ T.a i k * (T.b i / T.a i k) := Rat.mul_le_mul_of_nonneg_left h1 (Rat.le_of_lt hs)
    have h3 : T.a i k * (T.b i / T.a i k) = T.b i := by grind
    grind
   ·have h1 : T.a i k * (T.b r / T.a r k) ≤ 0 := by
     have := Rat.mul_nonneg (show 0 ≤ -T.a i k by grind) h0
     grind
    grind

theorem row_div {n : Nat} {a : Nat → Rat} {x : Nat → Rat} {p b : Rat} (hp : p ≠ 0) : sg n (fun j => a j / p * x j) = b / p ↔ sg n (fun j => a j * x j) = b := by
 have e : sg n (fun j => a j / p * x j) = sg n (fun j => a j * x j) / p := by
  rw [show sg n (fun j => a j / p * x j) = sg n (fun j => p⁻¹ * (a j * x j)) from sg_congr n fun i _ => by grind, sg_mul]; grind
 rw [e]
 constructor
 ·intro h; grind
 ·intro h; rw [h]
theorem piv_eqv {m n : Nat} {T : TB} {k r : Nat} (hr : r < m) (hp : T.a r k ≠ 0) : Eqv m n T (piv T r k) := by
 have key : ∀ (x : Nat → Rat) (i : Nat), i ≠ r → sg n (fun j => (piv T r k).a i j * x j) = sg n (fun j => T.a i j * x j) - T.a i k * sg n (fun j => T.a r j / T.a r k * x j) := by
  intro x i hi
  rw [← sg_mul, ← sg_sub]
  refine sg_congr n fun j _ => ?_
  show (if i = r then _ else T.a i j - T.a i k * (T.a r j / T.a r k)) * x j = _
  rw [if_neg hi]; grind
 have keyr : ∀ (x : Nat → Rat), sg n (fun j => (piv T r k).a r j * x j) = sg n (fun j => T.a r j / T.a r k * x j) := fun x => sg_congr n fun j _ => by
  show (if r = r then T.a r j / T.a r k else _) * x j = _
  rw [if_pos rfl]
 have br : (piv T r k).b r = T.b r / T.a r k := if_pos rfl
 have bi : ∀ i, i ≠ r → (piv T r k).b i = T.b i - T.a i k * (T.b r / T.a r k) := fun i hi => if_neg hi
 refine ⟨fun x => ⟨fun h i hi => ?_, fun h i hi => ?_⟩, fun x h => ?_⟩
 ·have h0 := (row_div hp).2 (h r hr)
  by_cases e : i = r
  ·subst e; rw [keyr, br]; exact h0
  ·rw [key x i e, bi i e, h i hi, h0]
 ·have h0 : sg n (fun j => T.a r j / T.a r k * x j) = T.b r / T.a r k := by have := h r hr; rw [keyr, br] at this; exact this
  by_cases e : i = r
  ·subst e; exact (row_div hp).1 h0
  ·have h1 := h i hi
   rw [key x i e, bi i e, h0] at h1
   grind
 ·have h0 := (row_div hp).2 (h r hr)
  unfold ObjT
  have e : sg n (fun j => (piv T r k).c j * x j) = sg n (fun j => T.c j * x j) - T.c k * sg n (fun j => T.a r j / T.a r k * x j) := by
   rw [← sg_mul, ← sg_sub]
   refine sg_congr n fun j _ => ?_
   show (T.c j - T.c k * (T.a r j / T.a r k)) * x j = _
   grind
  rw [e, h0]
  show _ = _ + (T.z + T.c k * (T.b r / T.a r k))
  grind

/-- A solution: variable s (not basic) has the value y, the other ones that are not basic are 0. -/
def ptS (m : Nat) (T : TB) (s : Nat) (y : Rat) (j : Nat) : Rat := (if j = s then y else 0) + sg m (fun i => if T.B i = j then T.b i - T.a i s * y else 0)
theorem sg_pick {m n : Nat} (f : Nat → Rat) (B : Nat → Nat) (v : Nat → Rat) (hB : ∀ i, i < m → B i < n) : sg n (fun j => f j * sg m (fun i => if B i = j then v i else 0)) = sg m (fun i => f (B i) * v i) := by
 rw [show sg n (fun j => f j * sg m (fun i => if B i = j then v i else 0)) = sg n (fun j => sg m (fun i => f j * (if B i = j then v i else 0))) from sg_congr n fun j _ => (sg_mul _ _ m).symm, sg_comm]
 refine sg_congr m fun i hi => ?_
 rw [sg_one n (hB i hi) fun j _ hj => by rw [if_neg (Ne.symm hj)]; grind]
 rw [if_pos rfl]
theorem sg_pt {m n : Nat} {T : TB} (h : Tab m n T) {s : Nat} (hs : s < n) (y : Rat) (f : Nat → Rat) : sg n (fun j => f j * ptS m T s y j) = f s * y + sg m (fun i => f (T.B i) * (T.b i - T.a i s * y)) := by
 have e : sg n (fun j => f j * ptS m T s y j) = sg n (fun j => f j * (if j = s then y else 0)) + sg n (fun j => f j * sg m (fun i => if T.B i = j then T.b i - T.a i s * y else 0)) := by
  rw [← sg_add]
  refine sg_congr n fun j _ => ?_
  unfold ptS; grind
 rw [e, sg_pick f T.B _ h.lt, sg_one n hs fun j _ hj => by rw [if_neg hj]; grind, if_pos rfl]
theorem pt_sol {m n : Nat} {T : TB} (h : Tab m n T) {s : Nat} (hs : s < n) (y : Rat) : SolT m n T (ptS m T s y) := by
 intro i hi
 rw [sg_pt h hs, sg_one m hi fun k hk hki => by rw [h.off i k hi hk (Ne.symm hki)]; grind, h.one i hi]
 grind
theorem pt_obj {m n : Nat} {T : TB} (h : Tab m n T) {s : Nat} (hs : s < n) (y : Rat) : ObjT n T (ptS m T s y) = T.c s * y + T.z := by
 unfold ObjT
 rw [sg_pt h hs, sg_zero' fun i hi => by rw [h.c0 i hi]; grind]
 grind

/-- The heart of Bland's proof. -/
theorem bland_core {m n : Nat} {D E : TB} (hD : Tab m n D) (hE : Tab m n E) (hq : Eqv m n D E) {s r : Nat} (hs : Ent n D s) (hl : Lea m D s r) (ht : Ent n E (D.B r)) (hst : s < D.B r)
  (hf : ∀ i, i < m → E.c (D.B i) ≠ 0 → D.B i ≤ D.B r ∧ D.b i = 0) : False := by
 have o : ∀ y, D.c s * y + D.z = E.c s * y + sg m (fun i => E.c (D.B i) * (D.b i - D.a i s * y)) + E.z := fun y => by
  have h1 := hq.obj _ (pt_sol hD hs.1 y)
  rw [pt_obj hD hs.1] at h1
  rw [h1]
  unfold ObjT
  rw [sg_pt hD hs.1]
 have o0 := o 0
 have o1 := o 1
 have e0 : sg m (fun i => E.c (D.B i) * (D.b i - D.a i s * 0)) = sg m (fun i => E.c (D.B i) * D.b i) := sg_congr m fun i _ => by grind
 have e1 : sg m (fun i => E.c (D.B i) * (D.b i - D.a i s * 1)) = sg m (fun i => E.c (D.B i) * D.b i) - sg m (fun i => E.c (D.B i) * D.a i s) := by
  rw [← sg_sub]; exact sg_congr m fun i _ => by grind
 rw [e0] at o0
 rw [e1] at o1
 have hcs := hs.2.1
 have hes := ht.2.2 s hst
 have hneg : sg m (fun i => E.c (D.B i) * D.a i s) < 0 := by grind
 obtain ⟨k, hk, hkn⟩ := sg_neg_ex hneg
 have hne : E.c (D.B k) ≠ 0 := fun e => by rw [e] at hkn; grind
 obtain ⟨hle, hb0⟩ := hf k hk hne
 have hkr : k ≠ r := fun e => by
  subst e
  have := Rat.mul_pos ht.2.1 hl.2.1
  grind
 have hlt : D.B k < D.B r := by
  rcases Nat.lt_or_eq_of_le hle with h | h
  ·exact h
  ·exact absurd (hD.inj hk hl.1 h) hkr
 have hck := ht.2.2 _ hlt
 have hak : 0 < D.a k s := by
  by_cases h : 0 < D.a k s
  ·exact h
  ·have := Rat.mul_nonneg (show 0 ≤ -E.c (D.B k) by grind) (show 0 ≤ -D.a k s by grind)
   grind
 have h0 : 0 ≤ D.b r / D.a r s := div_nonneg' (hD.nonneg r hl.1) hl.2.1
 have hbk : D.b k / D.a k s = 0 := by rw [hb0]; grind
 rcases hl.2.2 k hk hak with h | h
 ·rw [hbk] at h; grind
 ·omega
end

section
set_option linter.unusedVariables false

/-- A variable is basic. -/
def Bas (m : Nat) (T : TB) (v : Nat) : Prop := ∃ i, i < m ∧ T.B i = v
/-- A run of L steps. -/
structure Run (m n : Nat) (T : Nat → TB) (K R : Nat → Nat) (L : Nat) : Prop where
 tab : Tab m n (T 0)
 ent : ∀ q, q < L → Ent n (T q) (K q)
 lea : ∀ q, q < L → Lea m (T q) (K q) (R q)
 nxt : ∀ q, q < L → T (q + 1) = piv (T q) (R q) (K q)
section
variable {m n : Nat} {T : Nat → TB} {K R : Nat → Nat} {L : Nat}
theorem Run.good (h : Run m n T K R L) : ∀ q, q ≤ L → Tab m n (T q)
 | 0, _ => h.tab
 | q + 1, hq => by rw [h.nxt q (by omega)]; exact piv_tab (h.good q (by omega)) (h.ent q (by omega)) (h.lea q (by omega))
theorem Run.eqv (h : Run m n T K R L) : ∀ q, q ≤ L → Eqv m n (T 0) (T q)
 | 0, _ => Eqv.refl _ _ _
 | q + 1, hq => by
  have hl := h.lea q (by omega)
  have hne : (T q).a (R q) (K q) ≠ 0 := by have := hl.2.1; grind
  rw [h.nxt q (by omega)]
  exact (h.eqv q (by omega)).trans (piv_eqv hl.1 hne)
theorem Run.eqv2 (h : Run m n T K R L) {p q : Nat} (hp : p ≤ L) (hq : q ≤ L) : Eqv m n (T p) (T q) := (h.eqv p hp).symm.trans (h.eqv q hq)
theorem Run.nextB (h : Run m n T K R L) {q i : Nat} (hq : q < L) : (T (q + 1)).B i = if i = R q then K q else (T q).B i := by rw [h.nxt q hq]; rfl
/-- What is basic now and not at the next step has left; what is basic at the next step and not now has entered. -/
theorem Run.left (h : Run m n T K R L) {q v : Nat} (hq : q < L) (h1 : Bas m (T q) v) (h2 : ¬ Bas m (T (q + 1)) v) : v = (T q).B (R q) := by
 obtain ⟨i, hi, rfl⟩ := h1
 by_cases e : i = R q
 ·rw [e]
 ·exact absurd ⟨i, hi, by rw [h.nextB hq, if_neg e]⟩ h2
theorem Run.come (h : Run m n T K R L) {q v : Nat} (hq : q < L) (h1 : ¬ Bas m (T q) v) (h2 : Bas m (T (q + 1)) v) : v = K q := by
 obtain ⟨i, hi, e⟩ := h2
 rw [h.nextB hq] at e
 split at e
 ·exact e.symm
 ·exact absurd ⟨i, hi, e⟩ h1
theorem Run.leave (h : Run m n T K R L) {v : Nat} : ∀ {j i : Nat}, i ≤ j → j ≤ L → Bas m (T i) v → ¬ Bas m (T j) v → ∃ q, i ≤ q ∧ q < j ∧ v = (T q).B (R q)
  | 0, i, hi, _, h1, h2 => by obtain rfl : i = 0 := by omega
                              exact absurd h1 h2
  | j + 1, i, hi, hj, h1, h2 => by
    by_cases e : i = j + 1
    · subst e; exact absurd h1 h2
    · by_cases hb : Bas m (T j) v
      · exact ⟨j, by omega, by omega, h.left (by omega) hb h2⟩
      · obtain ⟨q, a, b, c⟩ := h.leave (i := i) (j := j) (by omega) (by omega) h1 hb
        exact ⟨q, a, by omega, c⟩
theorem Run.enter (h : Run m n T K R L) {v : Nat} : ∀ {j i : Nat}, i ≤ j → j ≤ L → ¬ Bas m (T i) v → Bas m (T j) v → ∃ q, i ≤ q ∧ q < j ∧ v = K q
  | 0, i, hi, _, h1, h2 => by obtain rfl : i = 0 := by omega
                              exact absurd h2 h1
  | j + 1, i, hi, hj, h1, h2 => by
    by_cases e : i = j + 1
    · subst e; exact absurd h2 h1
    · by_cases hb : Bas m (T j) v
      · obtain ⟨q, a, b, c⟩ := h.enter (i := i) (j := j) (by omega) (by omega) h1 hb
        exact ⟨q, a, by omega, c⟩
      · exact ⟨j, by omega, by omega, h.come (by omega) hb h2⟩
theorem Run.leaves_not (h : Run m n T K R L) {q : Nat} (hq : q < L) : ¬ Bas m (T (q + 1)) ((T q).B (R q)) := by
 rintro ⟨i, hi, e⟩
 have hg := h.good q (by omega)
 rw [h.nextB hq] at e
 split at e
 ·have h1 := hg.c0 (R q) (h.lea q hq).1
  have h2 := (h.ent q hq).2.1
  rw [← e] at h1
  grind
 ·rename_i hne
  exact hne (hg.inj hi (h.lea q hq).1 e)
theorem Run.enters_not (h : Run m n T K R L) {q : Nat} (hq : q < L) : ¬ Bas m (T q) (K q) := by
 rintro ⟨i, hi, e⟩
 have h1 := (h.good q (by omega)).c0 i hi
 have h2 := (h.ent q hq).2.1
 rw [e] at h1
 grind
theorem Run.enters_is (h : Run m n T K R L) {q : Nat} (hq : q < L) : Bas m (T (q + 1)) (K q) := ⟨R q, (h.lea q hq).1, by rw [h.nextB hq, if_pos rfl]⟩

/-- The value never sinks. -/
theorem Run.z_step (h : Run m n T K R L) {q : Nat} (hq : q < L) : (T (q + 1)).z = (T q).z + (T q).c (K q) * ((T q).b (R q) / (T q).a (R q) (K q)) ∧ 0 ≤ (T q).c (K q) * ((T q).b (R q) / (T q).a (R q) (K q)) := by
 refine ⟨by rw [h.nxt q hq]; rfl, ?_⟩
 have hl := h.lea q hq
 exact Rat.mul_nonneg (Rat.le_of_lt (h.ent q hq).2.1) (div_nonneg' ((h.good q (by omega)).nonneg _ hl.1) hl.2.1)
theorem Run.z_mono (h : Run m n T K R L) : ∀ {j i : Nat}, i ≤ j → j ≤ L → (T i).z ≤ (T j).z
  | 0, i, hi, _ => by obtain rfl : i = 0 := by omega
                      exact Rat.le_refl
  | j + 1, i, hi, hj => by
    by_cases e : i = j + 1
    · subst e; exact Rat.le_refl
    · have h1 := h.z_mono (i := i) (j := j) (by omega) (by omega)
      have h2 := h.z_step (q := j) (by omega)
      grind
/-- Two tableaus with the same basic variables have the same value. -/
theorem same_z {A C : TB} (hA : Tab m n A) (hC : Tab m n C) (hq : Eqv m n A C) {s : Nat} (hs : s < n) (hb : ∀ v, Bas m A v ↔ Bas m C v) : A.z = C.z := by
 have h1 := hq.obj _ (pt_sol hA hs 0)
 rw [pt_obj hA hs] at h1
 have h2 : ObjT n C (ptS m A s 0) = C.z := by
  unfold ObjT
  rw [sg_pt hA hs, sg_zero' fun i hi => by
   obtain ⟨k, hk, e⟩ := (hb (A.B i)).1 ⟨i, hi, rfl⟩
   rw [← e, hC.c0 k hk]; grind]
  grind
 grind

/-- A run does not come back to the same basic variables. -/
theorem Run.no_cycle (h : Run m n T K R L) (hL : 0 < L) (hb : ∀ v, Bas m (T 0) v ↔ Bas m (T L) v) : False := by
  have hz : (T 0).z = (T L).z := same_z h.tab (h.good L (Nat.le_refl _)) (h.eqv L (Nat.le_refl _)) (h.ent 0 hL).1 hb
  -- each pivot is degenerate
  have hdeg : ∀ q, q < L → (T q).b (R q) = 0 := fun q hq => by
    have h1 := h.z_mono (i := 0) (j := q) (by omega) (by omega)
    have h2 := h.z_mono (i := q + 1) (j := L) (by omega) (Nat.le_refl _)
    obtain ⟨h3, h4⟩ := h.z_step hq
    have h5 : (T q).c (K q) * ((T q).b (R q) / (T q).a (R q) (K q)) = 0 := by grind
    have h6 := (h.ent q hq).2.1
    have h7 := (h.lea q hq).2.1
    rcases Rat.mul_eq_zero.1 h5 with h8 | h8
    · grind
    · grind
  -- the right-hand sides do not change
  have hconst : ∀ q, q ≤ L → ∀ i, i < m → (T q).b i = (T 0).b i := by
    intro q
    induction q with
    | zero => intro _ i _; rfl
    | succ q ih =>
      intro hq i hi
      rw [← ih (by omega) i hi, h.nxt q (by omega)]
      have hd := hdeg q (by omega)
      show (if i = R q then (T q).b (R q) / (T q).a (R q) (K q) else (T q).b i - (T q).a i (K q) * ((T q).b (R q) / (T q).a (R q) (K q))) = _
      split
      · rename_i e; rw [e, hd]; grind
      · rw [hd]; grind
  -- a row that never is a pivot row keeps its variable
  have hrow : ∀ i, i < m → (∀ q, q < L → R q ≠ i) → ∀ q, q ≤ L → (T q).B i = (T 0).B i := by
    intro i hi hn q
    induction q with
    | zero => intro _; rfl
    | succ q ih =>
      intro hq
      rw [h.nextB (by omega), if_neg fun e => hn q (by omega) e.symm]
      exact ih (by omega)
  have hzero : ∀ p e i, p ≤ L → e ≤ L → i < m → ¬ Bas m (T e) ((T p).B i) → (T p).b i = 0 := by
    intro p e i hp he hi hnb
    by_cases ht : ∃ q, q < L ∧ R q = i
    · obtain ⟨q, hq, rfl⟩ := ht
      rw [hconst p hp _ hi, ← hconst q (by omega) _ hi]; exact hdeg q hq
    · have hn : ∀ q, q < L → R q ≠ i := fun q hq e => ht ⟨q, hq, e⟩
      exact absurd ⟨i, hi, by rw [hrow i hi hn e he, hrow i hi hn p hp]⟩ hnb
  -- what is basic at one step and not at another leaves at some step
  have hleave : ∀ v p e, p ≤ L → e ≤ L → Bas m (T p) v → ¬ Bas m (T e) v → ∃ q, q < L ∧ v = (T q).B (R q) := by
    intro v p e hp he h1 h2
    by_cases hpe : p ≤ e
    · obtain ⟨q, _, h3, h4⟩ := h.leave hpe he h1 h2
      exact ⟨q, by omega, h4⟩
    · by_cases hB : Bas m (T L) v
      · obtain ⟨q, _, h3, h4⟩ := h.leave (Nat.zero_le e) he ((hb v).2 hB) h2
        exact ⟨q, by omega, h4⟩
      · obtain ⟨q, _, h3, h4⟩ := h.leave hp (Nat.le_refl _) h1 hB
        exact ⟨q, by omega, h4⟩
  -- the greatest variable that leaves
  have hmax : ∀ k, k ≤ L → 0 < k → ∃ p, p < k ∧ ∀ q, q < k → (T q).B (R q) ≤ (T p).B (R p) := by
    intro k
    induction k with
    | zero => intro _ h0; omega
    | succ k ih =>
      intro hk _
      rcases Nat.eq_zero_or_pos k with h0 | h0
      · exact ⟨0, by omega, fun q hq => by obtain rfl : q = 0 := by omega
                                           exact Nat.le_refl _⟩
      · obtain ⟨p, hp, hle⟩ := ih (by omega) h0
        by_cases hc : (T k).B (R k) ≤ (T p).B (R p)
        · exact ⟨p, by omega, fun q hq => by
            by_cases e : q = k
            · subst e; exact hc
            · exact hle q (by omega)⟩
        · exact ⟨k, by omega, fun q hq => by
            by_cases e : q = k
            · subst e; exact Nat.le_refl _
            · have := hle q (by omega); omega⟩
  obtain ⟨p, hp, hle⟩ := hmax L (Nat.le_refl _) hL
  have htb : Bas m (T p) ((T p).B (R p)) := ⟨R p, (h.lea p hp).1, rfl⟩
  have htn := h.leaves_not hp
  -- it enters again
  obtain ⟨e, he, hte⟩ : ∃ e, e < L ∧ (T p).B (R p) = K e := by
    by_cases hB : Bas m (T L) ((T p).B (R p))
    · obtain ⟨q, _, h3, h4⟩ := h.enter (show p + 1 ≤ L by omega) (Nat.le_refl _) htn hB
      exact ⟨q, by omega, h4⟩
    · have hB0 := fun hh => hB ((hb _).1 hh)
      obtain ⟨q, _, h3, h4⟩ := h.enter (Nat.zero_le p) (by omega) hB0 htb
      exact ⟨q, by omega, h4⟩
  -- the variable that enters where it leaves is smaller
  have hst : K p < (T p).B (R p) := by
    obtain ⟨q, hq, h4⟩ := hleave (K p) (p + 1) p (by omega) (by omega) (h.enters_is hp) (h.enters_not hp)
    have h5 := hle q hq
    rw [← h4] at h5
    rcases Nat.lt_or_eq_of_le h5 with h6 | h6
    · exact h6
    · exact absurd (h6 ▸ htb) (h.enters_not hp)
  refine bland_core (h.good p (by omega)) (h.good e (by omega)) (h.eqv2 (by omega) (by omega)) (h.ent p hp) (h.lea p hp) (hte ▸ h.ent e he) hst fun i hi hne => ?_
  have hnb : ¬ Bas m (T e) ((T p).B i) := by
    rintro ⟨k, hk, ek⟩
    have := (h.good e (by omega)).c0 k hk
    rw [ek] at this
    exact hne this
  obtain ⟨q, hq, h4⟩ := hleave _ p e (by omega) (by omega) ⟨i, hi, rfl⟩ hnb
  exact ⟨by rw [h4]; exact hle q hq, hzero p e i (by omega) (by omega) hi hnb⟩

/-- A part of a run is a run. -/
theorem Run.part (h : Run m n T K R L) {i j : Nat} (hij : i ≤ j) (hj : j ≤ L) : Run m n (fun q => T (i + q)) (fun q => K (i + q)) (fun q => R (i + q)) (j - i) :=
 ⟨h.good i (by omega), fun q hq => h.ent (i + q) (by omega), fun q hq => h.lea (i + q) (by omega), fun q hq => h.nxt (i + q) (by omega)⟩
theorem Run.no_same (h : Run m n T K R L) {i j : Nat} (hij : i < j) (hj : j ≤ L) (hb : ∀ v, Bas m (T i) v ↔ Bas m (T j) v) : False := by
 have := (h.part (Nat.le_of_lt hij) hj).no_cycle (by omega)
 refine this ?_
 simp only [Nat.add_zero, show i + (j - i) = j by omega]
 exact hb
end

/-- Many numbers below a smaller bound: two are the same. -/
theorem pigeon : ∀ (k : Nat) (f : Nat → Nat), (∀ i, i ≤ k → f i < k) → ∃ i j, i < j ∧ j ≤ k ∧ f i = f j
 | 0, f, h => absurd (h 0 (Nat.le_refl _)) (by omega)
 | k + 1, f, h => by
  by_cases hh : ∃ i, i < k + 1 ∧ f i = f (k + 1)
  ·obtain ⟨i, hi, e⟩ := hh
   exact ⟨i, k + 1, hi, Nat.le_refl _, e⟩
  ·-- the value of the last one is put in the place of the greatest
   have hne : ∀ i, i < k + 1 → f i ≠ f (k + 1) := fun i hi e => hh ⟨i, hi, e⟩
   obtain ⟨i, j, hij, hj, e⟩ := pigeon k (fun i => if f i = k then f (k + 1) else f i) fun i hi => by
    have h1 := h i (by omega)
    have h2 := h (k + 1) (Nat.le_refl _)
    have h3 := hne i (by omega)
    split <;> omega
   refine ⟨i, j, hij, by omega, ?_⟩
   have h1 := hne i (by omega)
   have h2 := hne j (by omega)
   split at e <;> split at e <;> omega
/-- A set of numbers below n as a number. -/
def mask (p : Nat → Bool) : Nat → Nat
 | 0 => 0
 | n + 1 => 2 * mask p n + if p n then 1 else 0
theorem mask_lt (p : Nat → Bool) : ∀ n, mask p n < 2 ^ n
 | 0 => by simp [mask]
 | n + 1 => by have := mask_lt p n; unfold mask; rw [Nat.pow_succ]; split <;> omega
theorem mask_inj {p q : Nat → Bool} : ∀ {n : Nat}, mask p n = mask q n → ∀ i, i < n → p i = q i
 | 0, _, i, hi => absurd hi (by omega)
 | n + 1, h, i, hi => by
  unfold mask at h
  have h1 : p n = q n := by
   cases hp : p n <;> cases hq : q n <;> simp only [hp, hq, Bool.false_eq_true, if_false, if_true] at h <;> first | rfl | omega
  have h2 : mask p n = mask q n := by rw [h1] at h; split at h <;> omega
  by_cases e : i = n
  ·rw [e]; exact h1
  ·exact mask_inj h2 i (by omega)
/-- A run by Bland's rule is shorter than the number of sets of variables. -/
theorem run_short {m n : Nat} {T : Nat → TB} {K R : Nat → Nat} {L : Nat} (h : Run m n T K R L) : L < 2 ^ n := by
 classical
 rcases Nat.lt_or_ge L (2 ^ n) with hlt | hge
 ·exact hlt
 ·exfalso
  obtain ⟨i, j, hij, hj, e⟩ := pigeon (2 ^ n) (fun q => mask (fun v => decide (Bas m (T q) v)) n) fun i _ => mask_lt _ _
  refine h.no_same hij (by omega) fun v => ?_
  have hlt : ∀ q, q ≤ L → Bas m (T q) v → v < n := fun q hq ⟨k, hk, ek⟩ => ek ▸ (h.good q hq).lt k hk
  constructor
  ·intro hv
   have := mask_inj e v (hlt i (by omega) hv)
   simpa [hv] using this.symm
  ·intro hv
   have := mask_inj e v (hlt j (by omega) hv)
   simpa [hv] using this
end

section
set_option linter.unusedVariables false

/-- A number is a proper fraction's value. -/
def Rep (r : Rat) : Prop := aI r.num ≤ 1099511627776 ∧ (r.den : Int) ≤ 1048576
instance (r : Rat) : Decidable (Rep r) := by unfold Rep; exact inferInstance
theorem rep_toF {r : Rat} (h : Rep r) : toF r = (r.num, (r.den : Int), 0) := (toF_ok r h.1 h.2).1
theorem rep_pr {r : Rat} (h : Rep r) : prB r.num r.den = true := (toF_ok r h.1 h.2).2
theorem not_rep {r : Rat} (h : ¬ Rep r) : toF r = (0, 0, 5) := toF_large r h
theorem num_divInt (r : Rat) : Rat.divInt r.num r.den = r := Rat.num_divInt_den r
theorem rep_fr {r : Rat} (h : Rep r) : Fr r.num r.den r := ⟨rep_pr h, num_divInt r⟩
theorem fr_rep {p q : Int} {r : Rat} (h : Fr p q r) : Rep r ∧ p = r.num ∧ q = (r.den : Int) := by
 obtain ⟨h1, h2⟩ := h
 obtain ⟨h3, h4⟩ := prB_rat h1
 rw [h2] at h3 h4
 have hb := prB_bounds h1
 refine ⟨⟨?_, by omega⟩, h3.symm, h4.symm⟩
 rw [h3]; unfold aI; omega
theorem rep_neg {r : Rat} : Rep (-r) ↔ Rep r := by
 unfold Rep aI
 rw [Rat.neg_num, Rat.neg_den]
 simp
theorem rep_zero : Rep 0 := by decide
theorem rep_one : Rep 1 := by decide
theorem rep_pos {r : Rat} : 0 < r.num ↔ 0 < r := by
 have h := Rat.num_nonneg (q := -r)
 rw [Rat.neg_num] at h
 constructor
 ·intro h1
  have : ¬ 0 ≤ -r := fun h2 => by have := h.2 h2; omega
  grind
 ·intro h1
  have : ¬ 0 ≤ -r.num := fun h2 => by have := h.1 h2; grind
  omega

/-- No calculation of a pivot is too large. -/
structure PivOK (m N : Nat) (T : TB) (r k : Nat) : Prop where
 row : ∀ j, j < N → Rep (T.a r j / T.a r k)
 rhs : Rep (T.b r / T.a r k)
 pa : ∀ i, i < m → i ≠ r → ∀ j, j < N → Rep (T.a i k * (T.a r j / T.a r k)) ∧ Rep (T.a i j - T.a i k * (T.a r j / T.a r k))
 pb : ∀ i, i < m → i ≠ r → Rep (T.a i k * (T.b r / T.a r k)) ∧ Rep (T.b i - T.a i k * (T.b r / T.a r k))
 pc : ∀ j, j < N → Rep (T.c k * (T.a r j / T.a r k)) ∧ Rep (T.c j - T.c k * (T.a r j / T.a r k))
 pz : Rep (T.c k * (T.b r / T.a r k)) ∧ Rep (T.z + T.c k * (T.b r / T.a r k))
/-- No quotient that is compared is too large. -/
def RatOK (m : Nat) (T : TB) (k : Nat) : Prop := ∀ i j, i < m → j < m → i ≠ j → 0 < T.a i k → 0 < T.a j k → Rep (T.b i / T.a i k)
/-- All numbers of a tableau are small. -/
structure Sml (m N : Nat) (T : TB) : Prop where
 a : ∀ i, i < m → ∀ j, j < N → Rep (T.a i j)
 b : ∀ i, i < m → Rep (T.b i)
 c : ∀ j, j < N → Rep (T.c j)
 z : Rep T.z
theorem piv_sml {m N : Nat} {T : TB} {r k : Nat} (h : PivOK m N T r k) : Sml m N (piv T r k) := by
 refine ⟨fun i hi j hj => ?_, fun i hi => ?_, fun j hj => (h.pc j hj).2, h.pz.2⟩
 ·show Rep (if i = r then _ else _)
  split
  ·exact h.row j hj
  ·rename_i e; exact (h.pa i hi e j hj).2
 ·show Rep (if i = r then _ else _)
  split
  ·exact h.rhs
  ·rename_i e; exact (h.pb i hi e).2

/-- The run. -/
inductive Rn (m N : Nat) (T0 : TB) : Nat → TB → Prop
 | zero : Rn m N T0 0 T0
 | succ {q : Nat} {T : TB} {k r : Nat} : Rn m N T0 q T → Ent N T k → RatOK m T k → Lea m T k r → PivOK m N T r k → Rn m N T0 (q + 1) (piv T r k)
inductive Res
 | ok (T : TB)
 | err (c : Int)
/-- The run ends here, with this result. -/
inductive Last (m N : Nat) (T : TB) : Res → Prop
 | done : (∀ j, j < N → ¬ 0 < T.c j) → Last m N T (.ok T)
 | none {k : Nat} : Ent N T k → (∀ i, i < m → ¬ 0 < T.a i k) → Last m N T (.err 3)
 | ratio {k : Nat} : Ent N T k → ¬ RatOK m T k → Last m N T (.err 5)
 | large {k r : Nat} : Ent N T k → RatOK m T k → Lea m T k r → ¬ PivOK m N T r k → Last m N T (.err 5)
def Fin (m N : Nat) (T0 : TB) (R : Res) : Prop := ∃ q T, Rn m N T0 q T ∧ Last m N T R
section
variable {m N : Nat} {T0 T : TB} {q : Nat}
theorem ent_uni {k k' : Nat} (h : Ent N T k) (h' : Ent N T k') : k = k' := by
 rcases Nat.lt_trichotomy k k' with e | e | e
 ·exact absurd h.2.1 (h'.2.2 k e)
 ·exact e
 ·exact absurd h'.2.1 (h.2.2 k' e)
theorem lea_uni (ht : Tab m N T) {k r r' : Nat} (h : Lea m T k r) (h' : Lea m T k r') : r = r' := by
 obtain ⟨a1, a2, a3⟩ := h
 obtain ⟨b1, b2, b3⟩ := h'
 have h1 := a3 r' b1 b2
 have h2 := b3 r a1 a2
 rcases h1 with h1 | ⟨h1, h3⟩
 ·rcases h2 with h2 | ⟨h2, _⟩
  ·grind
  ·grind
 ·rcases h2 with h2 | ⟨h2, h4⟩
  ·grind
  ·exact ht.inj a1 b1 (by omega)
/-- The runs' tableaus, one behind the other. -/
theorem rn_run (h0 : Tab m N T0) (h : Rn m N T0 q T) : ∃ Tf K R, Run m N Tf K R q ∧ Tf 0 = T0 ∧ Tf q = T := by
 induction h with
 | zero => exact ⟨fun _ => T0, fun _ => 0, fun _ => 0, ⟨h0, fun q hq => absurd hq (by omega), fun q hq => absurd hq (by omega), fun q hq => absurd hq (by omega)⟩, rfl, rfl⟩
 | @succ q T k r hr he hra hl hp ih =>
  obtain ⟨Tf, K, R, hR, h1, h2⟩ := ih
  refine ⟨fun p => if p = q + 1 then piv T r k else Tf p, fun p => if p = q then k else K p, fun p => if p = q then r else R p, ⟨?_, fun p hp => ?_, fun p hp => ?_, fun p hp => ?_⟩, ?_, ?_⟩
  ·show Tab m N (if 0 = q + 1 then _ else Tf 0)
   rw [if_neg (by omega), h1]; exact h0
  ·by_cases e : p = q
   ·subst e; simp only [if_neg (show ¬ p = p + 1 by omega), ite_true]; rw [h2]; exact he
   ·simp only [if_neg (show ¬ p = q + 1 by omega), if_neg e]; exact hR.ent p (by omega)
  ·by_cases e : p = q
   ·subst e; simp only [if_neg (show ¬ p = p + 1 by omega), ite_true]; rw [h2]; exact hl
   ·simp only [if_neg (show ¬ p = q + 1 by omega), if_neg e]; exact hR.lea p (by omega)
  ·by_cases e : p = q
   ·subst e; simp only [if_neg (show ¬ p = p + 1 by omega), ite_true]; rw [h2]
   ·simp only [if_neg (show ¬ p = q + 1 by omega), if_neg e, if_neg (show ¬ p + 1 = q + 1 by omega)]; exact hR.nxt p (by omega)
  ·show (if 0 = q + 1 then _ else Tf 0) = T0
   rw [if_neg (by omega)]; exact h1
  ·simp
theorem rn_short (h0 : Tab m N T0) (h : Rn m N T0 q T) : q < 2 ^ N := by
 obtain ⟨Tf, K, R, hR, _⟩ := rn_run h0 h
 exact run_short hR
theorem rn_tab (h0 : Tab m N T0) (h : Rn m N T0 q T) : Tab m N T := by
 obtain ⟨Tf, K, R, hR, _, h2⟩ := rn_run h0 h
 exact h2 ▸ hR.good q (Nat.le_refl _)
theorem rn_eqv (h0 : Tab m N T0) (h : Rn m N T0 q T) : Eqv m N T0 T := by
 obtain ⟨Tf, K, R, hR, h1, h2⟩ := rn_run h0 h
 rw [← h1, ← h2]
 exact hR.eqv q (Nat.le_refl _)
theorem rn_sml (hs : Sml m N T0) (h : Rn m N T0 q T) : Sml m N T := by
 cases h with
 | zero => exact hs
 | succ _ _ _ _ hp => exact piv_sml hp
/-- Where a run ends it does not go on. -/
theorem last_stop (ht : Tab m N T) {R : Res} (h : Last m N T R) {k r : Nat} (he : Ent N T k) (hr : RatOK m T k) (hl : Lea m T k r) (hp : PivOK m N T r k) : False := by
 cases h with
 | done h1 => exact h1 k he.1 he.2.1
 | none h1 h2 => obtain rfl := ent_uni he h1; exact h2 r hl.1 hl.2.1
 | ratio h1 h2 => obtain rfl := ent_uni he h1; exact h2 hr
 | large h1 h2 h3 h4 => obtain rfl := ent_uni he h1; obtain rfl := lea_uni ht hl h3; exact h4 hp
theorem last_uni (ht : Tab m N T) {R R' : Res} (h : Last m N T R) (h' : Last m N T R') : R = R' := by
 cases h with
 | done h1 =>
  cases h' with
  | done _ => rfl
  | none g1 _ => exact absurd g1.2.1 (h1 _ g1.1)
  | ratio g1 _ => exact absurd g1.2.1 (h1 _ g1.1)
  | large g1 _ _ _ => exact absurd g1.2.1 (h1 _ g1.1)
 | none h1 h2 =>
  cases h' with
  | done g1 => exact absurd h1.2.1 (g1 _ h1.1)
  | none _ _ => rfl
  | ratio g1 g2 =>
   obtain rfl := ent_uni h1 g1
   exact absurd (fun i j hi _ _ hp _ => absurd hp (h2 i hi)) g2
  | large g1 _ g3 _ => obtain rfl := ent_uni h1 g1; exact absurd g3.2.1 (h2 _ g3.1)
 | ratio h1 h2 =>
  cases h' with
  | done g1 => exact absurd h1.2.1 (g1 _ h1.1)
  | none g1 g2 =>
   obtain rfl := ent_uni h1 g1
   exact absurd (fun i j hi _ _ hp _ => absurd hp (g2 i hi)) h2
  | ratio _ _ => rfl
  | large _ _ _ _ => rfl
 | large h1 h2 h3 h4 =>
  cases h' with
  | done g1 => exact absurd h1.2.1 (g1 _ h1.1)
  | none g1 g2 => obtain rfl := ent_uni h1 g1; exact absurd h3.2.1 (g2 _ h3.1)
  | ratio _ _ => rfl
  | large _ _ _ _ => rfl
theorem rn_uni (h0 : Tab m N T0) : ∀ {q : Nat} {T T' : TB}, Rn m N T0 q T → Rn m N T0 q T' → T = T'
 | 0, _, _, .zero, .zero => rfl
 | q + 1, _, _, .succ h1 h2 h3 h4 h5, .succ g1 g2 g3 g4 g5 => by
  obtain rfl := rn_uni h0 h1 g1
  obtain rfl := ent_uni h2 g2
  obtain rfl := lea_uni (rn_tab h0 h1) h4 g4
  rfl
theorem rn_cut (h0 : Tab m N T0) {q q' : Nat} {T T' : TB} (h : Rn m N T0 q T) (h' : Rn m N T0 q' T') (hlt : q < q') : ∃ k r, Ent N T k ∧ RatOK m T k ∧ Lea m T k r ∧ PivOK m N T r k := by
 induction h' with
 | zero => omega
 | @succ p U k r g1 g2 g3 g4 g5 ih =>
  by_cases e : q = p
  ·subst e
   obtain rfl := rn_uni h0 h g1
   exact ⟨k, r, g2, g3, g4, g5⟩
  ·exact ih (by omega)
/-- There is one result. -/
theorem fin_uni (h0 : Tab m N T0) {R R' : Res} (h : Fin m N T0 R) (h' : Fin m N T0 R') : R = R' := by
 obtain ⟨q, T, h1, h2⟩ := h
 obtain ⟨q', T', g1, g2⟩ := h'
 rcases Nat.lt_trichotomy q q' with e | e | e
 ·obtain ⟨k, r, a1, a2, a3, a4⟩ := rn_cut h0 h1 g1 e
  exact (last_stop (rn_tab h0 h1) h2 a1 a2 a3 a4).elim
 ·subst e
  obtain rfl := rn_uni h0 h1 g1
  exact last_uni (rn_tab h0 h1) h2 g2
 ·obtain ⟨k, r, a1, a2, a3, a4⟩ := rn_cut h0 g1 h1 e
  exact (last_stop (rn_tab h0 g1) g2 a1 a2 a3 a4).elim
end
end

section
set_option linter.unusedVariables false

theorem sg_split (n : Nat) (f : Nat → Rat) : ∀ m, sg (n + m) f = sg n f + sg m (fun i => f (n + i))
 | 0 => by show sg n f = sg n f + 0; grind
 | m + 1 => by show sg (n + m) f + f (n + m) = sg n f + (sg m (fun i => f (n + i)) + f (n + m)); rw [sg_split n f m]; grind
/-- The first tableau. -/
def tb0 (n : Nat) (A : Nat → Nat → Rat) (b c : Nat → Rat) : TB where
 a := fun i j => if j < n then A i j else if j = n + i then 1 else 0
 b := b
 c := fun j => if j < n then c j else 0
 z := 0
 B := fun i => n + i
theorem tb0_tab {n m : Nat} {A : Nat → Nat → Rat} {b c : Nat → Rat} (hb : ∀ i, i < m → 0 ≤ b i) : Tab m (n + m) (tb0 n A b c) where
 lt := fun i hi => by show n + i < n + m; omega
 one := fun i hi => by show (if n + i < n then _ else if n + i = n + i then (1 : Rat) else 0) = 1; rw [if_neg (by omega), if_pos rfl]
 off := fun i k hi hk hik => by show (if n + k < n then _ else if n + k = n + i then (1 : Rat) else 0) = 0; rw [if_neg (by omega), if_neg (by omega)]
 c0 := fun k hk => by show (if n + k < n then _ else (0 : Rat)) = 0; rw [if_neg (by omega)]
 nonneg := hb
/-- The objective; feasible solutions of both programs. -/
def obj (n : Nat) (c x : Nat → Rat) : Rat := sg n fun j => c j * x j
def PF (n m : Nat) (A : Nat → Nat → Rat) (b x : Nat → Rat) : Prop := (∀ j, j < n → 0 ≤ x j) ∧ ∀ i, i < m → obj n (A i) x ≤ b i
def DF (n m : Nat) (A : Nat → Nat → Rat) (c y : Nat → Rat) : Prop := (∀ i, i < m → 0 ≤ y i) ∧ ∀ j, j < n → c j ≤ obj m (fun i => A i j) y
def Unb (n m : Nat) (A : Nat → Nat → Rat) (b c : Nat → Rat) : Prop := ∃ x d : Nat → Rat, (∀ y : Rat, 0 ≤ y → PF n m A b (fun j => x j + y * d j)) ∧ 0 < obj n c d
section
variable {n m : Nat} {A : Nat → Nat → Rat} {b c : Nat → Rat}
/-- A solution with its slack. -/
def ext (n : Nat) (A : Nat → Nat → Rat) (b x : Nat → Rat) (j : Nat) : Rat := if j < n then x j else b (j - n) - obj n (A (j - n)) x
theorem ext_lt {x : Nat → Rat} {j : Nat} (h : j < n) : ext n A b x j = x j := if_pos h
theorem ext_ge {x : Nat → Rat} (i : Nat) : ext n A b x (n + i) = b i - obj n (A i) x := by unfold ext; rw [if_neg (by omega), show n + i - n = i by omega]
theorem ext_sum (f x : Nat → Rat) : sg (n + m) (fun j => f j * ext n A b x j) = obj n f x + sg m (fun i => f (n + i) * (b i - obj n (A i) x)) := by
 rw [sg_split]
 congr 1
 ·exact sg_congr n fun j hj => by rw [ext_lt hj]
 ·exact sg_congr m fun i _ => by rw [ext_ge]
theorem ext_sol (x : Nat → Rat) : SolT m (n + m) (tb0 n A b c) (ext n A b x) := fun i hi => by
 rw [ext_sum]
 have e1 : obj n ((tb0 n A b c).a i) x = obj n (A i) x := sg_congr n fun j hj => by show (if j < n then _ else _) * _ = _; rw [if_pos hj]
 have e2 : sg m (fun k => (tb0 n A b c).a i (n + k) * (b k - obj n (A k) x)) = b i - obj n (A i) x := by
  rw [sg_one m hi fun k hk hne => by
   show (if n + k < n then _ else if n + k = n + i then (1 : Rat) else 0) * _ = 0
   rw [if_neg (by omega), if_neg (by omega)]; grind]
  show (if n + i < n then _ else if n + i = n + i then (1 : Rat) else 0) * _ = _
  rw [if_neg (by omega), if_pos rfl]; grind
 rw [e1, e2]
 show _ = b i
 grind
theorem tb0_obj (y : Nat → Rat) : ObjT (n + m) (tb0 n A b c) y = obj n c y := by
 unfold ObjT
 rw [sg_split]
 have e1 : sg n (fun j => (tb0 n A b c).c j * y j) = obj n c y := sg_congr n fun j hj => by show (if j < n then _ else _) * _ = _; rw [if_pos hj]
 have e2 : sg m (fun i => (tb0 n A b c).c (n + i) * y (n + i)) = 0 := sg_zero' fun i _ => by show (if n + i < n then _ else (0 : Rat)) * _ = 0; rw [if_neg (by omega)]; grind
 rw [e1, e2]
 show _ + 0 + 0 = _
 grind
theorem obj_ext (x : Nat → Rat) : obj n c (ext n A b x) = obj n c x := sg_congr n fun j hj => by rw [ext_lt hj]
/-- A solution of the first tableau without negative numbers is a feasible solution. -/
theorem sol_pf {y : Nat → Rat} (h : SolT m (n + m) (tb0 n A b c) y) (h0 : ∀ j, j < n + m → 0 ≤ y j) : PF n m A b y := by
 refine ⟨fun j hj => h0 j (by omega), fun i hi => ?_⟩
 have h1 := h i hi
 rw [sg_split] at h1
 have e1 : sg n (fun j => (tb0 n A b c).a i j * y j) = obj n (A i) y := sg_congr n fun j hj => by show (if j < n then _ else _) * _ = _; rw [if_pos hj]
 have e2 : sg m (fun k => (tb0 n A b c).a i (n + k) * y (n + k)) = y (n + i) := by
  rw [sg_one m hi fun k hk hne => by
   show (if n + k < n then _ else if n + k = n + i then (1 : Rat) else 0) * _ = 0
   rw [if_neg (by omega), if_neg (by omega)]; grind]
  show (if n + i < n then _ else if n + i = n + i then (1 : Rat) else 0) * _ = _
  rw [if_neg (by omega), if_pos rfl]; grind
 rw [e1, e2] at h1
 have h2 := h0 (n + i) (by omega)
 have h3 : (tb0 n A b c).b i = b i := rfl
 rw [h3] at h1
 grind
/-- The solution of a tableau. -/
def xB (m : Nat) (T : TB) (j : Nat) : Rat := sg m fun i => if T.B i = j then T.b i else 0
theorem xB_sum {N : Nat} {T : TB} (h : Tab m N T) (f : Nat → Rat) : sg N (fun j => f j * xB m T j) = sg m (fun i => f (T.B i) * T.b i) := sg_pick f T.B T.b h.lt
theorem xB_sol {N : Nat} {T : TB} (h : Tab m N T) : SolT m N T (xB m T) := fun i hi => by
 rw [xB_sum h, sg_one m hi fun k hk hne => by rw [h.off i k hi hk (Ne.symm hne)]; grind, h.one i hi]
 grind
theorem xB_obj {N : Nat} {T : TB} (h : Tab m N T) : ObjT N T (xB m T) = T.z := by
 unfold ObjT
 rw [xB_sum h, sg_zero' fun i hi => by rw [h.c0 i hi]; grind]
 grind
theorem xB_nn {N : Nat} {T : TB} (h : Tab m N T) (j : Nat) : 0 ≤ xB m T j := sg_nonneg m fun i hi => by
 split
 ·exact h.nonneg i hi
 ·exact Rat.le_refl
theorem xB_at {N : Nat} {T : TB} (h : Tab m N T) {i : Nat} (hi : i < m) : xB m T (T.B i) = T.b i := by
 unfold xB
 rw [sg_one m hi fun k hk hne => if_neg fun e => hne (h.inj hk hi e), if_pos rfl]
theorem xB_no {T : TB} {j : Nat} (h : ∀ i, i < m → T.B i ≠ j) : xB m T j = 0 := sg_zero' fun i hi => if_neg (h i hi)
/-- The last tableau: the value is the greatest. -/
theorem opt_of {T : TB} (hT : Tab m (n + m) T) (hq : Eqv m (n + m) (tb0 n A b c) T) (hc : ∀ j, j < n + m → ¬ 0 < T.c j) : PF n m A b (xB m T) ∧ obj n c (xB m T) = T.z ∧ ∀ x, PF n m A b x → obj n c x ≤ T.z := by
 have h1 := (hq.sol _).2 (xB_sol hT)
 refine ⟨sol_pf h1 fun j _ => xB_nn hT j, ?_, fun x hx => ?_⟩
 ·rw [← tb0_obj (A := A) (b := b) (m := m), hq.obj _ h1, xB_obj hT]
 ·have h2 := hq.obj _ (ext_sol (A := A) (b := b) (c := c) x)
  rw [tb0_obj, obj_ext] at h2
  rw [h2]
  unfold ObjT
  have h3 : 0 ≤ sg (n + m) (fun j => -(T.c j * ext n A b x j)) := sg_nonneg _ fun j hj => by
   have h4 : 0 ≤ ext n A b x j := by
    by_cases e : j < n
    ·rw [ext_lt e]; exact hx.1 j e
    ·obtain ⟨i, rfl⟩ : ∃ i, j = n + i := ⟨j - n, by omega⟩
     rw [ext_ge]
     have := hx.2 i (by omega)
     grind
   have h5 := Rat.mul_nonneg (show 0 ≤ -T.c j by have := hc j hj; grind) h4
   grind
  have h6 : sg (n + m) (fun j => -(T.c j * ext n A b x j)) = -sg (n + m) (fun j => T.c j * ext n A b x j) := by
   have := sg_mul (-1) (fun j => T.c j * ext n A b x j) (n + m)
   rw [show sg (n + m) (fun j => -(T.c j * ext n A b x j)) = sg (n + m) (fun j => -1 * (T.c j * ext n A b x j)) from sg_congr _ fun j _ => by grind, this]
   grind
  rw [h6] at h3
  grind
/-- .. and the solution of the dual program. -/
theorem dual_of {T : TB} (hq : Eqv m (n + m) (tb0 n A b c) T) : obj m b (fun i => -T.c (n + i)) = T.z ∧ ∀ j, j < n → T.c j = c j - obj m (fun i => A i j) (fun i => -T.c (n + i)) := by
 have key : ∀ x : Nat → Rat, obj n c x = obj n T.c x + sg m (fun i => T.c (n + i) * (b i - obj n (A i) x)) + T.z := fun x => by
  have h2 := hq.obj _ (ext_sol (A := A) (b := b) (c := c) x)
  rw [tb0_obj, obj_ext] at h2
  rw [h2]
  unfold ObjT
  rw [ext_sum]
 have k0 := key fun _ => 0
 have z0 : ∀ f : Nat → Rat, obj n f (fun _ => 0) = 0 := fun f => sg_zero' fun j _ => by grind
 rw [z0, z0] at k0
 have e0 : sg m (fun i => T.c (n + i) * (b i - obj n (A i) fun _ => 0)) = -obj m b (fun i => -T.c (n + i)) := by
  unfold obj
  have := sg_mul (-1) (fun i => b i * -T.c (n + i)) m
  rw [show -sg m (fun i => b i * -T.c (n + i)) = sg m (fun i => -1 * (b i * -T.c (n + i))) by rw [this]; grind]
  refine sg_congr m fun i _ => ?_
  have := z0 (A i)
  unfold obj at this
  rw [this]; grind
 rw [e0] at k0
 refine ⟨by grind, fun j hj => ?_⟩
 have k1 := key fun k => if k = j then 1 else 0
 have z1 : ∀ f : Nat → Rat, obj n f (fun k => if k = j then 1 else 0) = f j := fun f => by
  unfold obj
  rw [sg_one n hj fun i _ hne => by show f i * (if i = j then 1 else 0) = 0; rw [if_neg hne]; grind]
  show f j * (if j = j then 1 else 0) = f j
  rw [if_pos rfl]; grind
 rw [z1, z1] at k1
 have e1 : sg m (fun i => T.c (n + i) * (b i - obj n (A i) fun k => if k = j then 1 else 0)) = -obj m b (fun i => -T.c (n + i)) + obj m (fun i => A i j) (fun i => -T.c (n + i)) := by
  have h1 : obj m b (fun i => -T.c (n + i)) = sg m (fun i => b i * -T.c (n + i)) := rfl
  have h2 : obj m (fun i => A i j) (fun i => -T.c (n + i)) = sg m (fun i => A i j * -T.c (n + i)) := rfl
  have h3 := sg_sub (fun i => A i j * -T.c (n + i)) (fun i => b i * -T.c (n + i)) m
  rw [h1, h2, show -sg m (fun i => b i * -T.c (n + i)) + sg m (fun i => A i j * -T.c (n + i)) = sg m (fun i => A i j * -T.c (n + i)) - sg m (fun i => b i * -T.c (n + i)) by grind, ← h3]
  refine sg_congr m fun i _ => ?_
  rw [z1]; grind
 rw [e1] at k1
 grind
theorem dual_df {T : TB} (hq : Eqv m (n + m) (tb0 n A b c) T) (hc : ∀ j, j < n + m → ¬ 0 < T.c j) : DF n m A c (fun i => -T.c (n + i)) := by
 refine ⟨fun i hi => ?_, fun j hj => ?_⟩
 ·have := hc (n + i) (by omega); grind
 ·have h1 := (dual_of hq).2 j hj
  have h2 := hc j (by omega)
  grind
/-- A column without a positive number: the program is unbounded. -/
theorem unb_of {T : TB} (hT : Tab m (n + m) T) (hq : Eqv m (n + m) (tb0 n A b c) T) {k : Nat} (he : Ent (n + m) T k) (hn : ∀ i, i < m → ¬ 0 < T.a i k) : Unb n m A b c := by
 have hpt : ∀ y j, ptS m T k y j = ptS m T k 0 j + y * (ptS m T k 1 j - ptS m T k 0 j) := fun y j => by
  unfold ptS
  have e : ∀ y : Rat, sg m (fun i => if T.B i = j then T.b i - T.a i k * y else 0) = sg m (fun i => if T.B i = j then T.b i else 0) - y * sg m (fun i => if T.B i = j then T.a i k else 0) := fun y => by
   rw [← sg_mul, ← sg_sub]
   refine sg_congr m fun i _ => ?_
   split <;> grind
  rw [e y, e 0, e 1]
  split <;> grind
 refine ⟨ptS m T k 0, fun j => ptS m T k 1 j - ptS m T k 0 j, fun y hy => ?_, ?_⟩
 ·have h1 := (hq.sol _).2 (pt_sol hT he.1 y)
  have h2 := sol_pf h1 fun j _ => by
   unfold ptS
   have h3 : 0 ≤ sg m (fun i => if T.B i = j then T.b i - T.a i k * y else 0) := sg_nonneg m fun i hi => by
    split
    ·have h4 := hT.nonneg i hi
     have h5 := Rat.mul_nonneg (show 0 ≤ -T.a i k by have := hn i hi; grind) hy
     grind
    ·exact Rat.le_refl
   split <;> grind
  have e : (fun j => ptS m T k 0 j + y * (ptS m T k 1 j - ptS m T k 0 j)) = ptS m T k y := funext fun j => (hpt y j).symm
  rw [e]; exact h2
 ·have h1 : ∀ y, obj n c (ptS m T k y) = T.c k * y + T.z := fun y => by
   have h2 := (hq.sol _).2 (pt_sol hT he.1 y)
   rw [← tb0_obj (A := A) (b := b) (m := m), hq.obj _ h2, pt_obj hT he.1]
  have h2 : obj n c (fun j => ptS m T k 1 j - ptS m T k 0 j) = obj n c (ptS m T k 1) - obj n c (ptS m T k 0) := by
   unfold obj
   rw [← sg_sub]
   exact sg_congr n fun j _ => by grind
  rw [h2, h1, h1]
  have := he.2.1
  grind
/-- What the result says. -/
theorem fin_ok (hb : ∀ i, i < m → 0 ≤ b i) {T : TB} (h : Fin m (n + m) (tb0 n A b c) (.ok T)) : Tab m (n + m) T ∧ Eqv m (n + m) (tb0 n A b c) T ∧ ∀ j, j < n + m → ¬ 0 < T.c j := by
 obtain ⟨q, U, h1, h2⟩ := h
 cases h2 with
 | done h3 => exact ⟨rn_tab (tb0_tab hb) h1, rn_eqv (tb0_tab hb) h1, h3⟩
theorem fin_unb (hb : ∀ i, i < m → 0 ≤ b i) (h : Fin m (n + m) (tb0 n A b c) (.err 3)) : Unb n m A b c := by
 obtain ⟨q, U, h1, h2⟩ := h
 cases h2 with
 | none h3 h4 => exact unb_of (rn_tab (tb0_tab hb) h1) (rn_eqv (tb0_tab hb) h1) h3 h4
theorem fin_cases {T0 : TB} {N : Nat} {R : Res} (h : Fin m N T0 R) : (∃ T, R = .ok T) ∨ R = .err 3 ∨ R = .err 5 := by
 obtain ⟨q, U, h1, h2⟩ := h
 cases h2 with
 | done _ => exact .inl ⟨_, rfl⟩
 | none _ _ => exact .inr (.inl rfl)
 | ratio _ _ => exact .inr (.inr rfl)
 | large _ _ _ _ => exact .inr (.inr rfl)
end
end

section
open Go.RowKit
set_option linter.unusedVariables false

structure Cut where
 ops : List Int
 cost : Int
def Cut.none : Cut := ⟨[], 0⟩
def cut (l : List Cut) (k : Nat) : Cut := l.getD k Cut.none
theorem cut_mem {l : List Cut} {k : Nat} (h : k < l.length) : cut l k ∈ l := by unfold cut; simp [List.getD, List.getElem?_eq_getElem h]
/-- Cuts: two cells each. -/
def CutsAt (w : World) (B : Nat) (A : Option Addr) (l : List Cut) : Prop :=
 l.length ≤ 140737488355328 ∧ (0 < l.length → ∃ b off, A = some ⟨b, off, none⟩ ∧ b < B ∧ ∀ k, k < l.length → ∃ S c,
  w.cell? ⟨b, off + k * 2, none⟩ = some (.slice S (cut l k).ops.length c) ∧ IntsAt w B S (cut l k).ops ∧
  w.cell? ⟨b, off + k * 2 + 1, none⟩ = some (.int .i64 (cut l k).cost))
section
variable {w w' : World} {B B' : Nat} {A : Option Addr}
theorem IntsAt.up {l : List Int} (h : IntsAt w w.heap.size A l) (hb : Below w.heap.size w w') : IntsAt w' w'.heap.size A l := h.keep (fun _ hp => hb.cell hp) hb.size
theorem FactsAt.up {l : List (Int × Int)} (h : FactsAt w w.heap.size A l) (hb : Below w.heap.size w w') : FactsAt w' w'.heap.size A l := h.keep (fun _ hp => hb.cell hp) hb.size
theorem CutsAt.len {l : List Cut} (h : CutsAt w B A l) : l.length ≤ 140737488355328 := h.1
theorem CutsAt.keep {l : List Cut} (h : CutsAt w B A l) (hk : ∀ p : Addr, p.block < B → w'.cell? p = w.cell? p) (hB : B ≤ B') : CutsAt w' B' A l :=
 ⟨h.1, fun hn => by
  obtain ⟨b, off, e, hb, hc⟩ := h.2 hn
  refine ⟨b, off, e, by omega, fun k hlt => ?_⟩
  obtain ⟨S, c, h1, h2, h3⟩ := hc k hlt
  exact ⟨S, c, (hk _ hb).trans h1, h2.keep hk hB, (hk _ hb).trans h3⟩⟩
theorem CutsAt.up {l : List Cut} (h : CutsAt w w.heap.size A l) (hb : Below w.heap.size w w') : CutsAt w' w'.heap.size A l := h.keep (fun _ hp => hb.cell hp) hb.size
theorem CutsAt.at2 {l : List Cut} (h : CutsAt w B A l) (hb : Below B w w') {k : Nat} (hk : k < l.length) : ∃ b off S c, A = some ⟨b, off, none⟩ ∧ b < B ∧
  w'.cell? ⟨b, off + k * 2, none⟩ = some (.slice S (cut l k).ops.length c) ∧ IntsAt w B S (cut l k).ops ∧
  w'.cell? ⟨b, off + k * 2 + 1, none⟩ = some (.int .i64 (cut l k).cost) := by
 obtain ⟨b, off, e, hlt, hc⟩ := h.2 (by omega)
 obtain ⟨S, c, h1, h2, h3⟩ := hc k hk
 exact ⟨b, off, S, c, e, hlt, (hb.cell hlt).trans h1, h2, (hb.cell hlt).trans h3⟩
theorem IntsAt.at2 {l : List Int} (h : IntsAt w B A l) (hb : Below B w w') {k : Nat} (hk : k < l.length) : ∃ b off, A = some ⟨b, off, none⟩ ∧ b < B ∧ w'.cell? ⟨b, off + k, none⟩ = some (.int .i64 (nth l k)) := by
 obtain ⟨b, off, e, hlt, hc⟩ := h.2 (by omega)
 exact ⟨b, off, e, hlt, (hb.cell hlt).trans (hc k hk)⟩
end

/-- Does one of the first n have it? -/
def anyB (n : Nat) (g : Nat → Bool) : Bool := (List.range n).any g
theorem anyB_zero (g : Nat → Bool) : anyB 0 g = false := rfl
theorem anyB_succ (n : Nat) (g : Nat → Bool) : anyB (n + 1) g = (anyB n g || g n) := by unfold anyB; rw [List.range_succ, List.any_append]; simp
theorem anyB_true {n : Nat} {g : Nat → Bool} : anyB n g = true ↔ ∃ k, k < n ∧ g k = true := by unfold anyB; simp [List.any_eq_true]
theorem anyB_false {n : Nat} {g : Nat → Bool} : anyB n g = false ↔ ∀ k, k < n → g k = false := by unfold anyB; simp [List.any_eq_false]

/-- A cost out of range; an operator of a cut that is out of range or does not ascend. -/
def offC (costs : List Int) (k : Nat) : Bool := decide (nth costs k < 0) || decide (1048576 < nth costs k)
def badK (n : Nat) (ops : List Int) (i : Nat) : Bool := (decide (nth ops i < 0) || decide ((n : Int) ≤ nth ops i)) || (decide (0 < i) && decide (nth ops i ≤ nth ops (i - 1)))
def cutC (n : Nat) (ops : List Int) : Int := if ops.length = 0 then 3 else if anyB ops.length (badK n ops) then 2 else 0
def cutsC (n : Nat) : List Cut → Int
 | [] => 0
 | x :: r => if cutC n x.ops = 0 then cutsC n r else cutC n x.ops
/-- The number of the error. -/
def chk38 (costs : List Int) (l : List Cut) : Int := if anyB costs.length (offC costs) then 1 else if 24 < l.length then 5 else cutsC costs.length l

theorem cut_zero (x : Cut) (r : List Cut) : cut (x :: r) 0 = x := rfl
theorem cut_succ (x : Cut) (r : List Cut) (k : Nat) : cut (x :: r) (k + 1) = cut r k := by unfold cut; simp [List.getD]
theorem cutsC_at {n : Nat} : ∀ {l : List Cut} {k : Nat}, k < l.length → (∀ j, j < k → cutC n (cut l j).ops = 0) → cutC n (cut l k).ops ≠ 0 → cutsC n l = cutC n (cut l k).ops
 | x :: r, 0, _, _, h => by unfold cutsC; rw [cut_zero] at h ⊢; rw [if_neg h]
 | x :: r, k + 1, hk, ha, h => by
  have h0 := ha 0 (by omega)
  rw [cut_zero] at h0
  unfold cutsC
  rw [if_pos h0, cut_succ]
  rw [cut_succ] at h
  exact cutsC_at (by simpa using hk) (fun j hj => by have := ha (j + 1) (by omega); rwa [cut_succ] at this) h
theorem cutsC_all {n : Nat} : ∀ {l : List Cut}, (∀ j, j < l.length → cutC n (cut l j).ops = 0) → cutsC n l = 0
 | [], _ => rfl
 | x :: r, ha => by
  have h0 := ha 0 (by simp)
  rw [cut_zero] at h0
  unfold cutsC
  rw [if_pos h0]
  exact cutsC_all (fun j hj => by have := ha (j + 1) (by simpa using hj); rwa [cut_succ] at this)
theorem cutsC_zero {n : Nat} : ∀ {l : List Cut}, cutsC n l = 0 → ∀ j, j < l.length → cutC n (cut l j).ops = 0
 | [], _, j, hj => absurd hj (by simp)
 | x :: r, h, j, hj => by
  unfold cutsC at h
  split at h
  ·rename_i h0
   cases j with
   | zero => rw [cut_zero]; exact h0
   | succ j => rw [cut_succ]; exact cutsC_zero h j (by simpa using hj)
  ·rename_i h0; exact absurd h h0
theorem cutC_none {n : Nat} {ops : List Int} (h : ops.length = 0) : cutC n ops = 3 := by unfold cutC; rw [if_pos h]
theorem cutC_bad {n : Nat} {ops : List Int} {i : Nat} (hi : i < ops.length) (h : badK n ops i = true) : cutC n ops = 2 := by
 unfold cutC
 rw [if_neg (by omega), if_pos (anyB_true.2 ⟨i, hi, h⟩)]
theorem cutC_good {n : Nat} {ops : List Int} (h0 : ops.length ≠ 0) (h : anyB ops.length (badK n ops) = false) : cutC n ops = 0 := by
 unfold cutC
 rw [if_neg h0, h]; rfl

/-- What the cuts without an error are. -/
structure Good38 (costs : List Int) (l : List Cut) : Prop where
 cost : ∀ k, k < costs.length → 0 ≤ nth costs k ∧ nth costs k ≤ 1048576
 many : l.length ≤ 24
 some : ∀ k, k < l.length → 0 < (cut l k).ops.length
 op : ∀ k, k < l.length → ∀ i, i < (cut l k).ops.length → 0 ≤ nth (cut l k).ops i ∧ nth (cut l k).ops i < costs.length ∧ (0 < i → nth (cut l k).ops (i - 1) < nth (cut l k).ops i)
theorem good38 {costs : List Int} {l : List Cut} (h : chk38 costs l = 0) : Good38 costs l := by
 unfold chk38 at h
 cases h1 : anyB costs.length (offC costs)
 ·rw [h1] at h
  simp only [Bool.false_eq_true, if_false] at h
  by_cases h2 : 24 < l.length
  ·rw [if_pos h2] at h; exact absurd h (by decide)
  ·rw [if_neg h2] at h
   have h3 := cutsC_zero h
   rw [anyB_false] at h1
   have h4 : ∀ k, k < l.length → 0 < (cut l k).ops.length ∧ anyB (cut l k).ops.length (badK costs.length (cut l k).ops) = false := fun k hk => by
    have := h3 k hk
    unfold cutC at this
    split at this
    ·exact absurd this (by decide)
    ·split at this
     ·exact absurd this (by decide)
     ·rename_i a b; exact ⟨by omega, by simpa using b⟩
   refine ⟨fun k hk => ?_, by omega, fun k hk => (h4 k hk).1, fun k hk i hi => ?_⟩
   ·have := h1 k hk
    unfold offC at this
    simp only [Bool.or_eq_false_iff, decide_eq_false_iff_not] at this
    omega
   ·have := anyB_false.1 (h4 k hk).2 i hi
    unfold badK at this
    simp only [Bool.or_eq_false_iff, Bool.and_eq_false_iff, decide_eq_false_iff_not] at this
    omega
 ·rw [h1] at h; simp at h
end

section
open Go Go.RowKit
set_option linter.unusedVariables false

structure Kw (lo hi : Nat) (w w' : World) : Prop where
 os : w'.os = w.os
 tape : w'.tape = w.tape
 output : w'.output = w.output
 size : w.heap.size ≤ w'.heap.size
 block : ∀ k, k < w.heap.size → (k < lo ∨ hi ≤ k) → w'.heap[k]? = w.heap[k]?
section
variable {lo hi : Nat} {w w' w'' : World}
theorem Kw.refl (lo hi : Nat) (w : World) : Kw lo hi w w := ⟨rfl, rfl, rfl, Nat.le_refl _, fun _ _ _ => rfl⟩
theorem Kw.trans (h : Kw lo hi w w') (k : Kw lo hi w' w'') : Kw lo hi w w'' :=
 ⟨k.os.trans h.os, k.tape.trans h.tape, k.output.trans h.output, Nat.le_trans h.size k.size, fun i hi ho => (k.block i (Nat.lt_of_lt_of_le hi h.size) ho).trans (h.block i hi ho)⟩
theorem Kw.of_below (h : Below w.heap.size w w') : Kw lo hi w w' := ⟨h.os, h.tape, h.output, h.size, fun k hk _ => h.block k hk⟩
theorem Kw.up (h : Kw lo hi w w') (hb : Below w'.heap.size w' w'') : Kw lo hi w w'' := h.trans (Kw.of_below hb)
theorem Kw.alloc (h : Kw lo hi w w') (o : Obj) : Kw lo hi w (w'.alloc o) := h.up ((Below.refl _ _).alloc (Nat.le_refl _) _)
theorem Kw.drew (h : Kw lo hi w w') : Kw lo hi w w'.drew := h.up (Below.refl _ _).drew
theorem Kw.set (h : Kw lo hi w w') {p : Addr} (h1 : lo ≤ p.block) (h2 : p.block < hi) (u : Value) : Kw lo hi w (w'.setCell p u) :=
 h.trans ⟨rfl, rfl, rfl, by simp [World.setCell], fun k hk ho => Below.heap_setCell _ _ _ _ (by omega)⟩
theorem Kw.cell (h : Kw lo hi w w') {p : Addr} (hp : p.block < w.heap.size) (ho : p.block < lo ∨ hi ≤ p.block) : w'.cell? p = w.cell? p := World.cell?_of_block (w := w) (h.block _ hp ho)
theorem Kw.below {B : Nat} (h : Kw lo hi w w') (hB : B ≤ lo) (hw : B ≤ w.heap.size) : Below B w w' := ⟨h.os, h.tape, h.output, h.size, fun k hk => h.block k (by omega) (.inl (by omega))⟩
end
end

end Go.Proofs.YtaampjhdgeoicaaGreat

/- Sum, both. -/
import Derived.Test.YtmdkchoepcjahaaDoorFracR
import Derived.Test.YtmdkchoepcjahaaDoorData
import Derived.Test.YtmdkchoepcjahaaDoorTail
import Derived.LoopTactic
import Derived.Deep.RegionHeld3
import Derived.Deep.LoopGhost
import Derived.Deep.DeepCutAuto
namespace Go.Proofs.YtmdkchoepcjahaaDoor
set_option linter.unusedSimpArgs false
set_option linter.unusedVariables false
open Go.RowKit
set_option linter.unusedVariables false

/-- Fractions added from the left. -/
def sumS : List (Int × Int) → Int → Int → Int × Int × Int
  | [], n, d => (n, d, 0)
  | f :: r, n, d => if (addF n d f.1 f.2).2.2 = 0 then sumS r (addF n d f.1 f.2).1 (addF n d f.1 f.2).2.1 else (0, 0, (addF n d f.1 f.2).2.2)
def sumF (l : List (Int × Int)) : Int × Int × Int := sumS l 0 1
def SumIs (l : List (Int × Int)) (k : Nat) (n d : Int) : Prop := sumF l = sumS (l.drop k) n d
theorem drop_fv {l : List (Int × Int)} {k : Nat} (h : k < l.length) : l.drop k = (fv l k, fx l k) :: l.drop (k + 1) := by
  have e : (fv l k, fx l k) = l[k] := by unfold fv fx; simp [List.getD, List.getElem?_eq_getElem h]
  rw [e, List.drop_eq_getElem_cons h]
theorem sum_step {l : List (Int × Int)} {k : Nat} {n d p q : Int} (h : SumIs l k n d) (hk : k < l.length) (h0 : addF n d (fv l k) (fx l k) = (p, q, 0)) : SumIs l (k + 1) p q := by
  unfold SumIs at *
  rw [h, drop_fv hk]
  conv => lhs; unfold sumS
  rw [h0]; rfl
theorem sum_stop {l : List (Int × Int)} {k : Nat} {n d p q c : Int} (h : SumIs l k n d) (hk : k < l.length) (h0 : addF n d (fv l k) (fx l k) = (p, q, c)) (hc : c ≠ 0) : sumF l = (0, 0, c) := by
  unfold SumIs at *
  rw [h, drop_fv hk]
  conv => lhs; unfold sumS
  rw [h0]
  exact if_neg hc
theorem sum_end {l : List (Int × Int)} {n d : Int} (h : SumIs l l.length n d) : sumF l = (n, d, 0) := by
  unfold SumIs at h
  rw [h, List.drop_length]; rfl
theorem errV_ne {c : Int} (h : c ≠ 0) : errV c = .iface 34 (.int .i64 c) := by unfold errV; rw [if_neg h]

/-- A fraction of the call's own in block b. -/
structure Own2 (w : World) (b : Nat) (n d : Int) : Prop where
  lt : b < w.heap.size
  c0 : w.cell? ⟨b, 0, none⟩ = some (.int .i64 n)
  c1 : w.cell? ⟨b, 1, none⟩ = some (.int .i64 d)
  f0 : w.frozen? ⟨b, 0, none⟩ = false
  f1 : w.frozen? ⟨b, 1, none⟩ = false

section
variable {w w' : World} {b b' : Nat} {n d p q : Int}
theorem Own2.alloc (h : Own2 w b n d) (o : Obj) : Own2 (w.alloc o) b n d :=
  have hb : Below w.heap.size w (w.alloc o) := (Below.refl _ _).alloc (Nat.le_refl _) _
  ⟨by simp; have := h.lt; omega, (hb.cell (p := ⟨b, 0, none⟩) h.lt).trans h.c0, (hb.cell (p := ⟨b, 1, none⟩) h.lt).trans h.c1, (hb.frozen (p := ⟨b, 0, none⟩) h.lt).trans h.f0, (hb.frozen (p := ⟨b, 1, none⟩) h.lt).trans h.f1⟩
theorem Own2.new {T : TypeId} : Own2 (w.alloc (.cells #[.int .i64 n, .int .i64 d] T)) w.heap.size n d := by constructor <;> first | (simp; done) | (simp; omega)
theorem Own2.drew (h : Own2 w b n d) : Own2 w.drew b n d := ⟨h.lt, h.c0, h.c1, h.f0, h.f1⟩
theorem Own2.up (h : Own2 w b n d) (hb : Below w.heap.size w w') : Own2 w' b n d :=
  ⟨Nat.lt_of_lt_of_le h.lt hb.size, (hb.cell (p := ⟨b, 0, none⟩) h.lt).trans h.c0, (hb.cell (p := ⟨b, 1, none⟩) h.lt).trans h.c1, (hb.frozen (p := ⟨b, 0, none⟩) h.lt).trans h.f0, (hb.frozen (p := ⟨b, 1, none⟩) h.lt).trans h.f1⟩
theorem Own2.put (h : Own2 w b n d) : Own2 ((w.setCell ⟨b, 0, none⟩ (.int .i64 p)).setCell ⟨b, 1, none⟩ (.int .i64 q)) b p q where
  lt := by simpa using h.lt
  c0 := by rw [World.cell?_setCell_other _ _ _ _ (by simp)]; exact World.cell?_setCell_same _ _ _ h.c0
  c1 := World.cell?_setCell_same _ _ _ (u := .int .i64 d) (by rw [World.cell?_setCell_other _ _ _ _ (by simp)]; exact h.c1)
  f0 := by simpa using h.f0
  f1 := by simpa using h.f1
theorem Own2.other (h : Own2 w b n d) (hb : b' ≠ b) {x y : Value} : Own2 ((w.setCell ⟨b', 0, none⟩ x).setCell ⟨b', 1, none⟩ y) b n d where
  lt := by simpa using h.lt
  c0 := by rw [World.cell?_setCell_other _ _ _ _ (by simp [hb]), World.cell?_setCell_other _ _ _ _ (by simp [hb])]; exact h.c0
  c1 := by rw [World.cell?_setCell_other _ _ _ _ (by simp [hb]), World.cell?_setCell_other _ _ _ _ (by simp [hb])]; exact h.c1
  f0 := by simpa using h.f0
  f1 := by simpa using h.f1
end

set_option maxRecDepth 4000 in
set_option maxHeartbeats 2000000 in
theorem sum_any (l : List (Int × Int)) (A : Option Addr) (c : Nat) (w : World) (hl : FactsAt w w.heap.size A l) :
    Calls Tryd.prog 11 #[.slice A l.length c] w (RetFE (sumF l) w) := by
  have l1 := hl.len
  go_enter Tryd.func11, Tryd.ntmps11
  go_wp2
  go_loopw [12] (fun i wr => ∃ (k : Nat) (n d m e : Int), k ≤ l.length ∧ i = .int .i64 k ∧ Own2 wr w.heap.size m e ∧ Own2 wr (w.heap.size + 1) n d ∧ SumIs l k n d ∧ Below w.heap.size w wr) (fun i _ => l.length - (intOf i).toNat)
  case atStart => exact ⟨0, 0, 1, 0, 0, by omega, rfl, by constructor <;> first | (simp; done) | (simp; omega), by constructor <;> first | (simp; done) | (simp; omega), rfl, by repeat (first | exact Below.refl _ _ | refine below_dN ?_ _ | refine Below.drew ?_ | refine Below.alloc ?_ (by first | omega | (simp; done) | (simp; omega)) _ | refine Below.setCell ?_ (by first | omega | (simp; done) | (simp; omega)) _ | refine below_step (by assumption) (by first | omega | (simp; done) | (simp; omega)) ?_)⟩
  case round =>
    obtain ⟨k, n, d, m, e, hk, rfl, hr, hq, hs, hbel⟩ := hrel
    obtain ⟨r0, r1, r2, r3, r4⟩ := id hr
    obtain ⟨s0, s1, s2, s3, s4⟩ := id hq
    have Hs := Lib.hid hs
    clear hs
    by_cases hlt : k < l.length
    · obtain ⟨b, o, rfl, hb, hc⟩ := hl.at_ hlt
      have d1 := (hbel.cell (p := ⟨b, o + k * 2, none⟩) hb).trans (hc k hlt).1
      have d2 := (hbel.cell (p := ⟨b, o + k * 2 + 1, none⟩) hb).trans (hc k hlt).2
      have hbz := hbel.size
      clear hc
      have k1 := fun W => add_any n d (fv l k) (fx l k) W
      obtain ⟨⟨p, q, code⟩, hx⟩ : ∃ r, addF n d (fv l k) (fx l k) = r := ⟨_, rfl⟩
      rw [hx] at k1
      have Hr := Lib.hid hx
      clear hx
      by_cases h0 : code = 0
      · subst h0
        unfold RetFE at k1
        simp only [errV_0] at k1
        go_wp2_with fail; refine (k1 _).mono ?_; rintro e w1 ⟨rfl, hb1⟩; obtain ⟨hc1, hf1, hz1, hlt1, hle1⟩ := cellsIf hb1 (by (try simp); exact rfl); (try have : w.heap.size < w1.heap.size := (by omega)); (try have : w.heap.size < w1.heap.size + 1 := (by omega)); (try have : w.heap.size < w1.heap.size + 1 + 1 := (by omega)); (try have : w.heap.size + 1 < w1.heap.size := (by omega)); (try have : w.heap.size + 1 < w1.heap.size + 1 := (by omega)); (try have : w.heap.size + 1 < w1.heap.size + 1 + 1 := (by omega)); (try have : w.heap.size + 1 + 1 < w1.heap.size := (by omega)); (try have : w.heap.size + 1 + 1 < w1.heap.size + 1 := (by omega)); (try have : w.heap.size + 1 + 1 < w1.heap.size + 1 + 1 := (by omega))
        go_wp2
        go_roundw
        case rel => exact ⟨k + 1, p, q, m, e, by omega, by go_num, (((hr.alloc _).up hb1).other (by omega)).alloc _, (((hq.alloc _).up hb1).put).alloc _, sum_step Hs.out hlt Hr.out, by repeat (first | exact Below.refl _ _ | refine below_dN ?_ _ | refine Below.drew ?_ | refine Below.alloc ?_ (by first | omega | (simp; done) | (simp; omega)) _ | refine Below.setCell ?_ (by first | omega | (simp; done) | (simp; omega)) _ | refine below_step (by assumption) (by first | omega | (simp; done) | (simp; omega)) ?_)⟩
        case measure => simp [intOf]; omega
      · have He := Lib.hid (sum_stop Hs.out hlt Hr.out h0)
        have Hv := Lib.hid (errV_ne h0)
        unfold RetFE at k1
        simp only [Hv.out] at k1
        clear h0
        go_wp2_with fail; refine (k1 _).mono ?_; rintro e w1 ⟨rfl, hb1⟩; obtain ⟨hc1, hf1, hz1, hlt1, hle1⟩ := cellsIf hb1 (by (try simp); exact rfl); (try have : w.heap.size < w1.heap.size := (by omega)); (try have : w.heap.size < w1.heap.size + 1 := (by omega)); (try have : w.heap.size < w1.heap.size + 1 + 1 := (by omega)); (try have : w.heap.size + 1 < w1.heap.size := (by omega)); (try have : w.heap.size + 1 < w1.heap.size + 1 := (by omega)); (try have : w.heap.size + 1 < w1.heap.size + 1 + 1 := (by omega)); (try have : w.heap.size + 1 + 1 < w1.heap.size := (by omega)); (try have : w.heap.size + 1 + 1 < w1.heap.size + 1 := (by omega)); (try have : w.heap.size + 1 + 1 < w1.heap.size + 1 + 1 := (by omega))
        go_wp2
        refine bodyPost_ret (v := .tuple #[.agg #[.int .i64 0, .int .i64 0], .iface 34 (.int .i64 code)]) (by simp [results, Tryd.results11, go_sem, ↓IntWalk.iteOmega, *]) rfl (RetFE.mk (by rw [He.out, ← Hv.out]) ?_)
        repeat (first | exact Below.refl _ _ | refine below_dN ?_ _ | refine Below.drew ?_ | refine Below.alloc ?_ (by first | omega | (simp; done) | (simp; omega)) _ | refine Below.setCell ?_ (by first | omega | (simp; done) | (simp; omega)) _ | refine below_step (by assumption) (by first | omega | (simp; done) | (simp; omega)) ?_)
    · obtain rfl : k = l.length := by omega
      have He := Lib.hid (sum_end Hs.out)
      go_wp2
      refine bodyPost_ret (v := .tuple #[.agg #[.int .i64 n, .int .i64 d], .nilIface]) (by simp [results, Tryd.results11, go_sem, ↓IntWalk.iteOmega, *]) rfl (RetFE.mk (by rw [He.out]; rfl) ?_)
      repeat (first | exact Below.refl _ _ | refine below_dN ?_ _ | refine Below.drew ?_ | refine Below.alloc ?_ (by first | omega | (simp; done) | (simp; omega)) _ | refine Below.setCell ?_ (by first | omega | (simp; done) | (simp; omega)) _ | refine below_step (by assumption) (by first | omega | (simp; done) | (simp; omega)) ?_)

end Go.Proofs.YtmdkchoepcjahaaDoor

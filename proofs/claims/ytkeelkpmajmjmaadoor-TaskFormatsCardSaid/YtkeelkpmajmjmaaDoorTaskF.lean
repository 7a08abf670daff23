/- conditions. -/
import Derived.Test.YtkeelkpmajmjmaaDoorTaskD
import Derived.LoopTactic
import Derived.Deep.LoopGhost
import Derived.Deep.DeepCutAuto
namespace Go.Proofs.YtkeelkpmajmjmaaDoor
set_option linter.unusedSimpArgs false
set_option linter.unusedVariables false
open Go.RowKit
set_option linter.unusedVariables false

/-- A slice of facts as a value: address, capacity, what it holds. -/
structure Hd where
  a : Option Addr
  c : Nat
  l : List (Int × Int)
def Hd.v (h : Hd) : Value := .slice h.a h.l.length h.c
/-- The conditions of an operator: of the first j effects. -/
def cndO (o : Opr) (j : Nat) : List (List (Int × Int)) := o.pre :: (List.range j).map fun i => (eff o.effs i).whn
def cnds (t : Tsk) (k : Nat) : List (List (Int × Int)) := t.goal :: (List.range k).flatMap fun i => cndO (opr t.ops i) (opr t.ops i).effs.length
theorem cndO_succ (o : Opr) (j : Nat) : cndO o (j + 1) = cndO o j ++ [(eff o.effs j).whn] := by unfold cndO; simp [List.range_succ]
theorem cnds_succ (t : Tsk) (k : Nat) : cnds t (k + 1) = cnds t k ++ cndO (opr t.ops k) (opr t.ops k).effs.length := by unfold cnds; simp [List.range_succ]

theorem infoF : (Tryd.prog.info? 23).map (fun i => (i.zero, i.size, i.bytes)) = some (some (.slice none 0 0), 1, 24) := by kernel_rfl
theorem undF : Tryd.prog.underlying 66 = some (.slice 23) := by kernel_rfl

/-- What has been gathered: the row, whose slices lie below B in w. -/
structure Gath (w wr : World) (v : Value) (cs : List (List (Int × Int))) (hs : List Hd) : Prop where
  lists : hs.map Hd.l = cs
  facts : ∀ h ∈ hs, FactsAt w w.heap.size h.a h.l
  own : wr.ownsRow w.heap.size 23 1 v hs.length (hs.map Hd.v)
theorem Gath.next {w wr w1 : World} {v v' : Value} {cs : List (List (Int × Int))} {hs : List Hd} (g : Gath w wr v cs hs) (h : Hd) (hf : FactsAt w w.heap.size h.a h.l)
    (ho : w1.ownsRow w.heap.size 23 1 v' (hs.length + 1) (hs.map Hd.v ++ [h.v])) : Gath w w1 v' (cs ++ [h.l]) (hs ++ [h]) :=
  ⟨by simp [g.lists], fun x hx => by rcases List.mem_append.1 hx with h1 | h1; exact g.facts x h1; simp at h1; subst h1; exact hf, by simpa using ho⟩
theorem Gath.keep {w wr w1 : World} {v : Value} {cs : List (List (Int × Int))} {hs : List Hd} (g : Gath w wr v cs hs) (hb : Below wr.heap.size wr w1) : Gath w w1 v cs hs :=
  ⟨g.lists, g.facts, g.own.kept (row := none) ⟨hb.os, hb.tape, hb.output, hb.size, fun k hk _ => hb.block k hk⟩ (by cases v.ownBlock <;> simp)⟩
theorem one_news {w : World} {g : Nat} {x : Value} (h : w.cell? ⟨g, 0, none⟩ = some x) : ∀ (j : Nat) (u : Value), [x][j]? = some u → w.cell? ((⟨g, 0, none⟩ : Addr).add j) = some u := by
  intro j u hj
  match j, hj with
  | 0, hj => simp at hj; subst hj; simpa [Addr.add] using h
theorem one_oneF {x : Value} (h : x.oneCell' = true) : ∀ u ∈ [x], u.oneCell' = true := by intro u hu; simp at hu; subst hu; exact h
/-- Behind an append to a row of the call's own. -/
theorem grown_below {w wr w1 : World} {v : Value} {n : Nat} {xs : List Value} {e : TypeId} {B : Nat} (hb : Below B w wr) (hB : B ≤ w.heap.size) (ho : wr.ownsRow B e 1 v n xs) (hg : wr.grownBy w1 v.ownBlock) : Below B w w1 :=
  hb.grown hg (Nat.le_trans hB hb.size) fun k hk => (ho.lt k hk).1

set_option maxRecDepth 4000 in
set_option maxHeartbeats 2000000 in
theorem conditions_any (t : Tsk) (p : Lies) (w : World) (ht : TaskAt w w.heap.size t p) (hm : t.ops.length ≤ 4096) (he : ∀ k, k < t.ops.length → (opr t.ops k).effs.length ≤ 64) :
    Calls Tryd.prog 32 #[TaskV t p] w fun e w' => (∃ v hs, e = .returned v ∧ Gath w w' v (cnds t t.ops.length) hs ∧ hs.length ≤ 1 + 65 * t.ops.length) ∧ Below w.heap.size w w' := by
  obtain ⟨av, ai, ag, ao, cv, ci, cg, co⟩ := p
  have He := Lib.hid he
  have Hm := Lib.hid hm
  clear he hm
  unfold TaskV
  dsimp only
  have l1 := ht.vars.len
  have l2 := ht.init.len
  have l3 := ht.goal.len
  have l4 := ht.ops.len
  obtain ⟨inf, hi, hz0, hz1, hz2⟩ := info_parts infoF
  go_enter Tryd.func32, Tryd.ntmps32
  go_wp2
  go_loopw [3, 14] (fun v i wr => ∃ (k : Nat) (hs : List Hd), k ≤ t.ops.length ∧ i = .int .i64 k ∧ Gath w wr v (cnds t k) hs ∧ hs.length ≤ 1 + 65 * k ∧ Below w.heap.size w wr) (fun _ i _ => t.ops.length - (intOf i).toNat)
  case atStart =>
    refine ⟨0, [⟨ag, cg, t.goal⟩], by omega, rfl, ⟨rfl, fun h hh => by simp at hh; subst hh; exact ht.goal, ?_⟩, by simp, by repeat (first | exact Below.refl _ _ | refine below_dN ?_ _ | refine Below.drew ?_ | refine Below.alloc ?_ (by first | omega | (simp; done) | (simp; omega)) _ | refine Below.setCell ?_ (by first | omega | (simp; done) | (simp; omega)) _ | refine below_step (by assumption) (by first | omega | (simp; done) | (simp; omega)) ?_)⟩
    refine ⟨by simp, .inr ⟨w.heap.size + 1, 1, #[Hd.v ⟨ag, cg, t.goal⟩], by simp [Hd.v], by omega, ?_, by simp, by simp [maxLen], by simp, by simp⟩⟩
    have hh : ∀ X Y, ((w.alloc X).alloc Y).heap[w.heap.size + 1]? = some Y := fun X Y => by rw [show w.heap.size + 1 = (w.alloc X).heap.size by simp]; exact heap_alloc_new _ _
    exact hh _ _
  case round =>
    obtain ⟨k, hs, hk, rfl, hg, hl, hbel⟩ := hrel
    by_cases hlt : k < t.ops.length
    · obtain ⟨b, o, S, c, T, d, ea, hb, d0, q0, d1, d2, f2, d3, e3⟩ := ht.ops.at2 hbel hlt; (try dsimp only at ea); subst ea; have hbz := hbel.size; have g2 : b < wr.heap.size := (by omega); have j1 := f2.len; have j2 := e3.len
      have hk2 := He.out k hlt
      have hm2 := Hm.out
      go_wp2_with (at_builtin; refine wpList_append_own _ rfl _ _ 66 rfl w.heap.size 23 inf (.slice none 0 0) 1 24 undF hi hz0 hz1 hz2 rfl (by decide) _ _ _ rfl ((hg.own.alloc _).alloc _) ⟨wr.heap.size + 1, 0, none⟩ 1 1 [Hd.v ⟨S, c, (opr t.ops k).pre⟩] rfl rfl (one_news (by simp [Hd.v])) (one_oneF rfl) (by unfold maxLen; omega) (by omega) (by simp; omega) ?_; intro v' w1 hown' hgrow _; have hg1 := hg.next ⟨S, c, (opr t.ops k).pre⟩ f2 hown'; have hbel1 : Below w.heap.size w w1 := grown_below (by repeat (first | exact Below.refl _ _ | refine below_dN ?_ _ | refine Below.drew ?_ | refine Below.alloc ?_ (by first | omega | (simp; done) | (simp; omega)) _ | refine Below.setCell ?_ (by first | omega | (simp; done) | (simp; omega)) _ | refine below_step (by assumption) (by first | omega | (simp; done) | (simp; omega)) ?_)) (Nat.le_refl _) ((hg.own.alloc _).alloc _) hgrow; have x3 : w1.cell? ⟨wr.heap.size, 3, none⟩ = some (.slice T (opr t.ops k).effs.length d) := hgrow.cell (by simp) (fun e => by have := (hg.own.lt _ e.symm).2; simp at this); have x4 : wr.heap.size < w1.heap.size := (by have := hgrow.size; simp at this; omega); clear hgrow hown')
      go_loopw [3, 26] (fun v i wx => ∃ (j : Nat) (hs2 : List Hd), j ≤ (opr t.ops k).effs.length ∧ i = .int .i64 j ∧ Gath w wx v (cnds t k ++ cndO (opr t.ops k) j) hs2 ∧ hs2.length ≤ 2 + 65 * k + j ∧ Below w.heap.size w wx) (fun _ i _ => (opr t.ops k).effs.length - (intOf i).toNat)
      case atStart => exact ⟨0, _, by omega, rfl, hg1, by simp; omega, by repeat (first | exact Below.refl _ _ | refine below_dN ?_ _ | refine Below.drew ?_ | refine Below.alloc ?_ (by first | omega | (simp; done) | (simp; omega)) _ | refine Below.setCell ?_ (by first | omega | (simp; done) | (simp; omega)) _ | refine below_step (by assumption) (by first | omega | (simp; done) | (simp; omega)) ?_)⟩
      case round =>
        obtain ⟨j, hs2, hj, rfl, hg2, hl2, hbel2⟩ := hrel
        by_cases hlt2 : j < (opr t.ops k).effs.length
        · obtain ⟨b', o', S', c', ea', hb', i0, f5, i1, i2⟩ := e3.at2 hbel2 hlt2; subst ea'; have hbz2 := hbel2.size; have g3 : b' < wr.heap.size := (by omega); have j3 := f5.len
          go_wp2_with (at_builtin; refine wpList_append_own _ rfl _ _ 66 rfl w.heap.size 23 inf (.slice none 0 0) 1 24 undF hi hz0 hz1 hz2 rfl (by decide) _ _ _ rfl ((hg2.own.alloc _).alloc _) ⟨wr.heap.size + 1, 0, none⟩ 1 1 [Hd.v ⟨S', c', (eff (opr t.ops k).effs j).whn⟩] rfl rfl (one_news (by simp [Hd.v])) (one_oneF rfl) (by unfold maxLen; omega) (by omega) (by simp; omega) ?_; intro v' w1 hown' hgrow _; have hg3 := hg2.next ⟨S', c', (eff (opr t.ops k).effs j).whn⟩ f5 hown'; have hbel3 : Below w.heap.size w w1 := grown_below (by repeat (first | exact Below.refl _ _ | refine below_dN ?_ _ | refine Below.drew ?_ | refine Below.alloc ?_ (by first | omega | (simp; done) | (simp; omega)) _ | refine Below.setCell ?_ (by first | omega | (simp; done) | (simp; omega)) _ | refine below_step (by assumption) (by first | omega | (simp; done) | (simp; omega)) ?_)) (Nat.le_refl _) ((hg2.own.alloc _).alloc _) hgrow; clear hgrow hown')
          go_roundw
          case rel => exact ⟨j + 1, _, by omega, by go_num, (by rw [cndO_succ, ← List.append_assoc]; exact hg3), by simp; omega, by repeat (first | exact Below.refl _ _ | refine below_dN ?_ _ | refine Below.drew ?_ | refine Below.alloc ?_ (by first | omega | (simp; done) | (simp; omega)) _ | refine Below.setCell ?_ (by first | omega | (simp; done) | (simp; omega)) _ | refine below_step (by assumption) (by first | omega | (simp; done) | (simp; omega)) ?_)⟩
          case measure => simp [intOf]; omega
        · go_wp2
          go_roundw
          case rel => exact ⟨k + 1, hs2, by omega, by go_num, (by rw [cnds_succ, ← show j = (opr t.ops k).effs.length by omega]; exact hg2), by omega, by repeat (first | exact Below.refl _ _ | refine below_dN ?_ _ | refine Below.drew ?_ | refine Below.alloc ?_ (by first | omega | (simp; done) | (simp; omega)) _ | refine Below.setCell ?_ (by first | omega | (simp; done) | (simp; omega)) _ | refine below_step (by assumption) (by first | omega | (simp; done) | (simp; omega)) ?_)⟩
          case measure => simp [intOf]; omega
    · go_wp2
      go_ret
      refine ⟨⟨_, hs, rfl, (show k = t.ops.length by omega) ▸ hg, by omega⟩, by repeat (first | exact Below.refl _ _ | refine below_dN ?_ _ | refine Below.drew ?_ | refine Below.alloc ?_ (by first | omega | (simp; done) | (simp; omega)) _ | refine Below.setCell ?_ (by first | omega | (simp; done) | (simp; omega)) _ | refine below_step (by assumption) (by first | omega | (simp; done) | (simp; omega)) ?_)⟩

end Go.Proofs.YtkeelkpmajmjmaaDoor

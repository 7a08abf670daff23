/- Texts laid together: TaskE, TaskF, TaskI, TaskG, TaskH, TaskJ, TaskK, TaskL, TaskM, TaskN, TaskO, TaskQ. -/
import Derived.Test.YtpobnjbpglaohaaGreatTaskA
import Derived.Test.YtpobnjbpglaohaaGreatWgA
import Derived.LoopTactic
import Derived.Deep.LoopGhost
import Derived.Deep.DeepCutAuto
import Derived.Lib.BufferMore
import Derived.Laws.AppendOwnNone
namespace Go.Proofs.YtpobnjbpglaohaaGreat
set_option linter.unusedSimpArgs false
set_option linter.unusedVariables false
section
open Go.RowKit
set_option linter.unusedVariables false

theorem factsAt_one {w : World} {B b : Nat} {v x : Int} (hb : b < B) (h0 : w.cell? ⟨b, 0, none⟩ = some (.int .i64 v)) (h1 : w.cell? ⟨b, 1, none⟩ = some (.int .i64 x)) : FactsAt w B (some ⟨b, 0, none⟩) [(v, x)] :=
  ⟨by simp, fun _ => ⟨b, 0, rfl, hb, fun k hk => by
    have : k = 0 := by simp at hk; omega
    subst this
    exact ⟨h0, h1⟩⟩⟩

end

section
open Go.RowKit
set_option linter.unusedVariables false

/-- A slice of facts as a value: address, capacity, what it holds. -/
structure Hd where
  a : Option Addr
  c : Nat
  l : List (Int × Int)
def Hd.v (h : Hd) : Value := .slice h.a h.l.length h.c
/-- The conditions of an operator: of the first j effects. -/
def cndO (o : Opr) (j : Nat) : List (List (Int × Int)) := o.pre :: (List.range j).map fun i => (eff o.effs i).whn
def cnds (t : Tsk) (k : Nat) : List (List (Int × Int)) := t.goal :: (List.range k).flatMap fun i => cndO (opr t.ops i) (opr t.ops i).effs.length
theorem cndO_succ (o : Opr) (j : Nat) : cndO o (j + 1) = cndO o j ++ [(eff o.effs j).whn] := by unfold cndO; simp [List.range_succ]
theorem cnds_succ (t : Tsk) (k : Nat) : cnds t (k + 1) = cnds t k ++ cndO (opr t.ops k) (opr t.ops k).effs.length := by unfold cnds; simp [List.range_succ]

theorem infoF : (Tryz.prog.info? 23).map (fun i => (i.zero, i.size, i.bytes)) = some (some (.slice none 0 0), 1, 24) := by kernel_rfl
theorem undF : Tryz.prog.underlying 122 = some (.slice 23) := by kernel_rfl

/-- What has been gathered: the row, whose slices lie below B in w. -/
structure Gath (w wr : World) (v : Value) (cs : List (List (Int × Int))) (hs : List Hd) : Prop where
  lists : hs.map Hd.l = cs
  facts : ∀ h ∈ hs, FactsAt w w.heap.size h.a h.l
  own : wr.ownsRow w.heap.size 23 1 v hs.length (hs.map Hd.v)
theorem Gath.next {w wr w1 : World} {v v' : Value} {cs : List (List (Int × Int))} {hs : List Hd} (g : Gath w wr v cs hs) (h : Hd) (hf : FactsAt w w.heap.size h.a h.l)
    (ho : w1.ownsRow w.heap.size 23 1 v' (hs.length + 1) (hs.map Hd.v ++ [h.v])) : Gath w w1 v' (cs ++ [h.l]) (hs ++ [h]) :=
  ⟨by simp [g.lists], fun x hx => by rcases List.mem_append.1 hx with h1 | h1; exact g.facts x h1; simp at h1; subst h1; exact hf, by simpa using ho⟩
theorem Gath.keep {w wr w1 : World} {v : Value} {cs : List (List (Int × Int))} {hs : List Hd} (g : Gath w wr v cs hs) (hb : Below wr.heap.size wr w1) : Gath w w1 v cs hs :=
  ⟨g.lists, g.facts, g.own.kept (row := none) ⟨hb.os, hb.tape, hb.output, hb.size, fun k hk _ => hb.block k hk⟩ (by cases v.ownBlock <;> simp)⟩
theorem one_news {w : World} {g : Nat} {x : Value} (h : w.cell? ⟨g, 0, none⟩ = some x) : ∀ (j : Nat) (u : Value), [x][j]? = some u → w.cell? ((⟨g, 0, none⟩ : Addr).add j) = some u := by
  intro j u hj
  match j, hj with
  | 0, hj => simp at hj; subst hj; simpa [Addr.add] using h
theorem one_oneF {x : Value} (h : x.oneCell' = true) : ∀ u ∈ [x], u.oneCell' = true := by intro u hu; simp at hu; subst hu; exact h
/-- Behind an append to a row of the call's own. -/
theorem grown_below {w wr w1 : World} {v : Value} {n : Nat} {xs : List Value} {e : TypeId} {B : Nat} (hb : Below B w wr) (hB : B ≤ w.heap.size) (ho : wr.ownsRow B e 1 v n xs) (hg : wr.grownBy w1 v.ownBlock) : Below B w w1 :=
  hb.grown hg (Nat.le_trans hB hb.size) fun k hk => (ho.lt k hk).1

set_option maxRecDepth 4000 in
set_option maxHeartbeats 2000000 in
theorem conditions_any (t : Tsk) (p : Lies) (w : World) (ht : TaskAt w w.heap.size t p) (hm : t.ops.length ≤ 4096) (he : ∀ k, k < t.ops.length → (opr t.ops k).effs.length ≤ 64) :
    Calls Tryz.prog 53 #[TaskV t p] w fun e w' => (∃ v hs, e = .returned v ∧ Gath w w' v (cnds t t.ops.length) hs ∧ hs.length ≤ 1 + 65 * t.ops.length) ∧ Below w.heap.size w w' := by
  obtain ⟨av, ai, ag, ao, cv, ci, cg, co⟩ := p
  have He := Lib.hid he
  have Hm := Lib.hid hm
  clear he hm
  unfold TaskV
  dsimp only
  have l1 := ht.vars.len
  have l2 := ht.init.len
  have l3 := ht.goal.len
  have l4 := ht.ops.len
  obtain ⟨inf, hi, hz0, hz1, hz2⟩ := info_parts infoF
  go_enter Tryz.func53, Tryz.ntmps53
  go_wp2
  go_loopw [3, 14] (fun v i wr => ∃ (k : Nat) (hs : List Hd), k ≤ t.ops.length ∧ i = .int .i64 k ∧ Gath w wr v (cnds t k) hs ∧ hs.length ≤ 1 + 65 * k ∧ Below w.heap.size w wr) (fun _ i _ => t.ops.length - (intOf i).toNat)
  case atStart =>
    refine ⟨0, [⟨ag, cg, t.goal⟩], by omega, rfl, ⟨rfl, fun h hh => by simp at hh; subst hh; exact ht.goal, ?_⟩, by simp, by repeat (first | exact Below.refl _ _ | refine below_dN ?_ _ | refine Below.drew ?_ | refine Below.alloc ?_ (by first | omega | (simp; done) | (simp; omega)) _ | refine Below.setCell ?_ (by first | omega | (simp; done) | (simp; omega)) _ | refine below_step (by assumption) (by first | omega | (simp; done) | (simp; omega)) ?_)⟩
    refine ⟨by simp, .inr ⟨w.heap.size + 1, 1, #[Hd.v ⟨ag, cg, t.goal⟩], by simp [Hd.v], by omega, ?_, by simp, by simp [maxLen], by simp, by simp⟩⟩
    have hh : ∀ X Y, ((w.alloc X).alloc Y).heap[w.heap.size + 1]? = some Y := fun X Y => by rw [show w.heap.size + 1 = (w.alloc X).heap.size by simp]; exact heap_alloc_new _ _
    exact hh _ _
  case round =>
    obtain ⟨k, hs, hk, rfl, hg, hl, hbel⟩ := hrel
    by_cases hlt : k < t.ops.length
    · obtain ⟨b, o, S, c, T, d, ea, hb, d0, q0, d1, d2, f2, d3, e3⟩ := ht.ops.at2 hbel hlt; (try dsimp only at ea); subst ea; have hbz := hbel.size; have g2 : b < wr.heap.size := (by omega); have j1 := f2.len; have j2 := e3.len
      have hk2 := He.out k hlt
      have hm2 := Hm.out
      go_wp2_with (at_builtin; refine wpList_append_own _ rfl _ _ 122 rfl w.heap.size 23 inf (.slice none 0 0) 1 24 undF hi hz0 hz1 hz2 rfl (by decide) _ _ _ rfl ((hg.own.alloc _).alloc _) ⟨wr.heap.size + 1, 0, none⟩ 1 1 [Hd.v ⟨S, c, (opr t.ops k).pre⟩] rfl rfl (one_news (by simp [Hd.v])) (one_oneF rfl) (by unfold maxLen; omega) (by omega) (by simp; omega) ?_; intro v' w1 hown' hgrow _; have hg1 := hg.next ⟨S, c, (opr t.ops k).pre⟩ f2 hown'; have hbel1 : Below w.heap.size w w1 := grown_below (by repeat (first | exact Below.refl _ _ | refine below_dN ?_ _ | refine Below.drew ?_ | refine Below.alloc ?_ (by first | omega | (simp; done) | (simp; omega)) _ | refine Below.setCell ?_ (by first | omega | (simp; done) | (simp; omega)) _ | refine below_step (by assumption) (by first | omega | (simp; done) | (simp; omega)) ?_)) (Nat.le_refl _) ((hg.own.alloc _).alloc _) hgrow; have x3 : w1.cell? ⟨wr.heap.size, 3, none⟩ = some (.slice T (opr t.ops k).effs.length d) := hgrow.cell (by simp) (fun e => by have := (hg.own.lt _ e.symm).2; simp at this); have x4 : wr.heap.size < w1.heap.size := (by have := hgrow.size; simp at this; omega); clear hgrow hown')
      go_loopw [3, 26] (fun v i wx => ∃ (j : Nat) (hs2 : List Hd), j ≤ (opr t.ops k).effs.length ∧ i = .int .i64 j ∧ Gath w wx v (cnds t k ++ cndO (opr t.ops k) j) hs2 ∧ hs2.length ≤ 2 + 65 * k + j ∧ Below w.heap.size w wx) (fun _ i _ => (opr t.ops k).effs.length - (intOf i).toNat)
      case atStart => exact ⟨0, _, by omega, rfl, hg1, by simp; omega, by repeat (first | exact Below.refl _ _ | refine below_dN ?_ _ | refine Below.drew ?_ | refine Below.alloc ?_ (by first | omega | (simp; done) | (simp; omega)) _ | refine Below.setCell ?_ (by first | omega | (simp; done) | (simp; omega)) _ | refine below_step (by assumption) (by first | omega | (simp; done) | (simp; omega)) ?_)⟩
      case round =>
        obtain ⟨j, hs2, hj, rfl, hg2, hl2, hbel2⟩ := hrel
        by_cases hlt2 : j < (opr t.ops k).effs.length
        · obtain ⟨b', o', S', c', ea', hb', i0, f5, i1, i2⟩ := e3.at2 hbel2 hlt2; subst ea'; have hbz2 := hbel2.size; have g3 : b' < wr.heap.size := (by omega); have j3 := f5.len
          go_wp2_with (at_builtin; refine wpList_append_own _ rfl _ _ 122 rfl w.heap.size 23 inf (.slice none 0 0) 1 24 undF hi hz0 hz1 hz2 rfl (by decide) _ _ _ rfl ((hg2.own.alloc _).alloc _) ⟨wr.heap.size + 1, 0, none⟩ 1 1 [Hd.v ⟨S', c', (eff (opr t.ops k).effs j).whn⟩] rfl rfl (one_news (by simp [Hd.v])) (one_oneF rfl) (by unfold maxLen; omega) (by omega) (by simp; omega) ?_; intro v' w1 hown' hgrow _; have hg3 := hg2.next ⟨S', c', (eff (opr t.ops k).effs j).whn⟩ f5 hown'; have hbel3 : Below w.heap.size w w1 := grown_below (by repeat (first | exact Below.refl _ _ | refine below_dN ?_ _ | refine Below.drew ?_ | refine Below.alloc ?_ (by first | omega | (simp; done) | (simp; omega)) _ | refine Below.setCell ?_ (by first | omega | (simp; done) | (simp; omega)) _ | refine below_step (by assumption) (by first | omega | (simp; done) | (simp; omega)) ?_)) (Nat.le_refl _) ((hg2.own.alloc _).alloc _) hgrow; clear hgrow hown')
          go_roundw
          case rel => exact ⟨j + 1, _, by omega, by go_num, (by rw [cndO_succ, ← List.append_assoc]; exact hg3), by simp; omega, by repeat (first | exact Below.refl _ _ | refine below_dN ?_ _ | refine Below.drew ?_ | refine Below.alloc ?_ (by first | omega | (simp; done) | (simp; omega)) _ | refine Below.setCell ?_ (by first | omega | (simp; done) | (simp; omega)) _ | refine below_step (by assumption) (by first | omega | (simp; done) | (simp; omega)) ?_)⟩
          case measure => simp [intOf]; omega
        · go_wp2
          go_roundw
          case rel => exact ⟨k + 1, hs2, by omega, by go_num, (by rw [cnds_succ, ← show j = (opr t.ops k).effs.length by omega]; exact hg2), by omega, by repeat (first | exact Below.refl _ _ | refine below_dN ?_ _ | refine Below.drew ?_ | refine Below.alloc ?_ (by first | omega | (simp; done) | (simp; omega)) _ | refine Below.setCell ?_ (by first | omega | (simp; done) | (simp; omega)) _ | refine below_step (by assumption) (by first | omega | (simp; done) | (simp; omega)) ?_)⟩
          case measure => simp [intOf]; omega
    · go_wp2
      go_ret
      refine ⟨⟨_, hs, rfl, (show k = t.ops.length by omega) ▸ hg, by omega⟩, by repeat (first | exact Below.refl _ _ | refine below_dN ?_ _ | refine Below.drew ?_ | refine Below.alloc ?_ (by first | omega | (simp; done) | (simp; omega)) _ | refine Below.setCell ?_ (by first | omega | (simp; done) | (simp; omega)) _ | refine below_step (by assumption) (by first | omega | (simp; done) | (simp; omega)) ?_)⟩
end

section
open Go.RowKit
set_option linter.unusedVariables false

theorem infoI : (Tryz.prog.info? 3).map (fun i => (i.zero, i.size, i.bytes)) = some (some (.int .i64 0), 1, 8) := by kernel_rfl
theorem undI : Tryz.prog.underlying 22 = some (.slice 3) := by kernel_rfl

/-- A list of numbers as cells. -/
def ic (l : List Int) : List Value := l.map (.int .i64)
theorem ic_get {l : List Int} {k : Nat} (h : k < l.length) : (ic l)[k]? = some (.int .i64 (nth l k)) := by unfold ic nth; simp [List.getD, List.getElem?_eq_getElem h]
/-- A row of the call's own, read as a list of numbers. -/
theorem own_ints {w : World} {B : Nat} {v : Value} {l : List Int} (h : w.ownsRow B 3 1 v l.length (ic l)) (hl : l.length ≤ 140737488355328) : ∃ A c, v = .slice A l.length c ∧ IntsAt w w.heap.size A l := by
  rcases h.2 with ⟨rfl, h0⟩ | ⟨b, cap, cur, rfl, hb, hg, hh⟩
  · rw [h0]; exact ⟨none, 0, rfl, hl, fun hn => absurd hn (by omega)⟩
  · refine ⟨_, cap, rfl, hl, fun _ => ⟨b, 0, rfl, (Array.getElem?_eq_some_iff.1 hg).1, fun k hk => ?_⟩⟩
    have := h.cells (g := b) rfl k _ (ic_get hk)
    simp [Addr.add] at this
    split at this
    · rename_i h0; subst h0; exact this
    · simpa using this

set_option maxRecDepth 4000 in
set_option maxHeartbeats 1000000 in
theorem clone_any (s : List Int) (A : Option Addr) (c : Nat) (w : World) (h : IntsAt w w.heap.size A s) (hs : s.length ≤ 1000000) :
    Calls Tryz.prog 40 #[.slice A s.length c] w fun e w' => (∃ v, e = .returned v ∧ w'.ownsRow w.heap.size 3 1 v s.length (ic s)) ∧ Below w.heap.size w w' := by
  obtain ⟨inf, hi, hz0, hz1, hz2⟩ := info_parts infoI
  have hA : A = none → s = [] := fun e => by
    rcases Nat.eq_zero_or_pos s.length with h0 | h0
    · exact List.length_eq_zero_iff.1 h0
    · obtain ⟨b, off, e2, _⟩ := h.2 h0; rw [e] at e2; cases e2
  cases A with
  | none =>
    obtain rfl := hA rfl
    have heq : ∀ w', (binOp .eql 22 (.slice none ([] : List Int).length c) (.slice none 0 0)).run Tryz.prog w' = .ok (.bool true) w' := fun w' => Lib.run_eql_slice_nil_nil w' _ c undI
    simp only [List.length_nil] at heq ⊢
    go_enter Tryz.func40, Tryz.ntmps40
    go_wp2
    go_ret
    exact ⟨⟨_, rfl, World.ownsRow_nil _ _ _ _⟩, by repeat (first | exact Below.refl _ _ | refine below_dN ?_ _ | refine Below.drew ?_ | refine Below.alloc ?_ (by first | omega | (simp; done) | (simp; omega)) _ | refine Below.setCell ?_ (by first | omega | (simp; done) | (simp; omega)) _ | refine below_step (by assumption) (by first | omega | (simp; done) | (simp; omega)) ?_)⟩
  | some ad =>
    have hcells : ∀ (j : Nat) (u : Value), (ic s)[j]? = some u → w.cell? (ad.add j) = some u := fun j u hj => by
      have hlt : j < s.length := by have := (List.getElem?_eq_some_iff.1 hj).1; simpa [ic] using this
      obtain ⟨b, off, e2, _, hc⟩ := h.2 (by omega)
      rw [ic_get hlt] at hj
      cases hj
      cases e2
      have := hc j hlt
      simp [Addr.add]
      split
      · rename_i h0; subst h0; simpa using this
      · simpa using this
    have hlt : ∀ j, j < s.length → (ad.add j).block < w.heap.size := fun j hj => by
      obtain ⟨b, off, e2, hb, _⟩ := h.2 (by omega)
      cases e2
      simp [Addr.add]; split <;> exact hb
    have Hn := Lib.hid (show ∀ (o : Obj) (j : Nat) (u : Value), (ic s)[j]? = some u → (w.alloc o).cell? (ad.add j) = some u from fun o j u hj =>
      (((Below.refl w.heap.size w).alloc (Nat.le_refl _) o).cell (hlt j (by have := (List.getElem?_eq_some_iff.1 hj).1; simpa [ic] using this))).trans (hcells j u hj))
    clear hcells hlt hA
    have heq : ∀ w', (binOp .eql 22 (.slice (some ad) s.length c) (.slice none 0 0)).run Tryz.prog w' = .ok (.bool false) w' := fun w' => Lib.run_eql_slice_some_nil w' ad _ c undI
    go_enter Tryz.func40, Tryz.ntmps40
    go_wp2_with (at_builtin; refine wpList_append_own _ rfl _ _ 22 rfl w.heap.size 3 inf (.int .i64 0) 1 8 undI hi hz0 hz1 hz2 rfl (by decide) _ 0 [] rfl (World.ownsRow_made w #[] 0 (Nat.le_refl _) (by simp [maxLen]) rfl) ad s.length c (ic s) rfl (by simp [ic]) (Hn.out _) (by intro u hu; simp [ic] at hu; obtain ⟨x, _, rfl⟩ := hu; rfl) (by unfold maxLen; omega) (by omega) (by simp) ?_; intro v' w1 hown' hgrow _; simp only [Nat.zero_add, List.nil_append] at hown'; have hb1 : Below w.heap.size w w1 := grown_below (Below.alloc (Below.refl _ _) (Nat.le_refl _) _) (Nat.le_refl _) (World.ownsRow_made w #[] 0 (Nat.le_refl _) (by simp [maxLen]) rfl) hgrow; have Hown := Lib.hid hown'; clear hgrow hown')
    go_ret
    exact ⟨⟨_, rfl, Hown.out⟩, hb1⟩
end

section
open Go.RowKit
set_option linter.unusedVariables false

def hd (hs : List Hd) (k : Nat) : Hd := hs.getD k ⟨none, 0, []⟩
theorem hd_get {hs : List Hd} {k : Nat} (h : k < hs.length) : hs[k]? = some (hd hs k) := by unfold hd; simp [List.getD, List.getElem?_eq_getElem h]
theorem hd_mem {hs : List Hd} {k : Nat} (h : k < hs.length) : hd hs k ∈ hs := List.mem_of_getElem? (hd_get h)
/-- A row that has something: where it begins, its cells. -/
theorem Gath.at_ {w wr : World} {v : Value} {cs : List (List (Int × Int))} {hs : List Hd} (g : Gath w wr v cs hs) (hn : 0 < hs.length) :
    ∃ b cap, v = .slice (some ⟨b, 0, none⟩) hs.length cap ∧ b < wr.heap.size ∧ ∀ k, k < hs.length → wr.cell? ⟨b, k, none⟩ = some (.slice (hd hs k).a (hd hs k).l.length (hd hs k).c) := by
  obtain ⟨b, cap, rfl, hlt⟩ : ∃ b cap, v = .slice (some ⟨b, 0, none⟩) hs.length cap ∧ b < wr.heap.size := by
    rcases g.own.2 with ⟨_, h0⟩ | ⟨b, cap, cur, hv, hb, hg, _⟩
    · omega
    · exact ⟨b, cap, hv, (Array.getElem?_eq_some_iff.1 hg).1⟩
  refine ⟨b, cap, rfl, hlt, fun k hk => ?_⟩
  have := g.own.cells (g := b) rfl k ((hd hs k).v) (by simp [hd_get hk])
  simp [Addr.add, Hd.v] at this
  split at this
  · rename_i h0; subst h0; exact this
  · exact this

def over (h : Hd) : Bool := decide ((64 : Int) < h.l.length)

theorem lam_any (a : Option Addr) (n c : Nat) (w : World) (hn : n ≤ 140737488355328) : Calls Tryz.prog 68 #[.slice a n c] w fun e w' => e = .returned (.bool (decide ((64 : Int) < n))) ∧ w = w' := by
  go_enter Tryz.func68, Tryz.ntmps68
  go_wp2
  go_ret
  exact ⟨rfl, rfl⟩

set_option maxHeartbeats 1000000 in
theorem indexf_any (w0 : World) (v : Value) (cs : List (List (Int × Int))) (hs : List Hd) (w : World) (hg : Gath w0 w v cs hs) (hl : hs.length ≤ 300000) (hn : 0 < hs.length) :
    Calls Tryz.prog 75 #[v, .func (.func 68) #[] #[]] w fun e w' => (∃ i, e = .returned (.int .i64 i) ∧ decide (0 ≤ i) = anyB hs.length (fun k => over (hd hs k))) ∧ Below w.heap.size w w' := by
  obtain ⟨b, cap, rfl, hb, hc⟩ := hg.at_ hn
  go_enter Tryz.func75, Tryz.ntmps75
  go_wp2
  go_loopw [8] (fun i wr => ∃ k : Nat, k ≤ hs.length ∧ i = .int .i64 k ∧ anyB k (fun k => over (hd hs k)) = false ∧ Below w.heap.size w wr) (fun i _ => hs.length - (intOf i).toNat)
  case atStart => exact ⟨0, by omega, rfl, rfl, Below.refl _ _⟩
  case round =>
    obtain ⟨k, hk, rfl, hB, hbel⟩ := hrel
    have HB := Lib.hid hB
    clear hB
    by_cases hlt : k < hs.length
    · have hbz := hbel.size
      have d1 := (hbel.cell (p := ⟨b, k, none⟩) hb).trans (hc k hlt)
      have hn2 := (hg.facts _ (hd_mem hlt)).len
      have Hc := Lib.hid hc
      clear hc
      cases e1 : decide ((64 : Int) < (hd hs k).l.length)
      · go_wp2_with fail
        refine (lam_any _ _ _ _ hn2).mono ?_
        rintro e w' ⟨rfl, rfl⟩
        go_wp2
        go_roundw
        case rel => exact ⟨k + 1, by omega, by go_num, (by rw [anyB_succ, HB.out]; exact e1), by repeat (first | exact Below.refl _ _ | refine below_dN ?_ _ | refine Below.drew ?_ | refine Below.alloc ?_ (by first | omega | (simp; done) | (simp; omega)) _ | refine Below.setCell ?_ (by first | omega | (simp; done) | (simp; omega)) _ | refine below_step (by assumption) (by first | omega | (simp; done) | (simp; omega)) ?_)⟩
        case measure => simp [intOf]; omega
      · go_wp2_with fail
        refine (lam_any _ _ _ _ hn2).mono ?_
        rintro e w' ⟨rfl, rfl⟩
        go_wp2
        go_ret
        refine ⟨⟨_, rfl, ?_⟩, by repeat (first | exact Below.refl _ _ | refine below_dN ?_ _ | refine Below.drew ?_ | refine Below.alloc ?_ (by first | omega | (simp; done) | (simp; omega)) _ | refine Below.setCell ?_ (by first | omega | (simp; done) | (simp; omega)) _ | refine below_step (by assumption) (by first | omega | (simp; done) | (simp; omega)) ?_)⟩
        rw [anyB_true.2 ⟨k, hlt, e1⟩]
        simp
    · go_wp2
      go_ret
      refine ⟨⟨_, rfl, ?_⟩, by repeat (first | exact Below.refl _ _ | refine below_dN ?_ _ | refine Below.drew ?_ | refine Below.alloc ?_ (by first | omega | (simp; done) | (simp; omega)) _ | refine Below.setCell ?_ (by first | omega | (simp; done) | (simp; omega)) _ | refine below_step (by assumption) (by first | omega | (simp; done) | (simp; omega)) ?_)⟩
      rw [show hs.length = k by omega, HB.out]
      rfl

set_option maxHeartbeats 1000000 in
theorem containsf_any (w0 : World) (v : Value) (cs : List (List (Int × Int))) (hs : List Hd) (w : World) (hg : Gath w0 w v cs hs) (hl : hs.length ≤ 300000) (hn : 0 < hs.length) :
    Calls Tryz.prog 67 #[v, .func (.func 68) #[] #[]] w fun e w' => e = .returned (.bool (anyB hs.length (fun k => over (hd hs k)))) ∧ Below w.heap.size w w' := by
  have k1 := fun w1 (hb : Below w.heap.size w w1) => indexf_any w0 v cs hs w1 (hg.keep hb) hl hn
  go_enter Tryz.func67, Tryz.ntmps67
  go_wp2_with fail
  refine (k1 _ (by repeat (first | exact Below.refl _ _ | refine below_dN ?_ _ | refine Below.drew ?_ | refine Below.alloc ?_ (by first | omega | (simp; done) | (simp; omega)) _ | refine Below.setCell ?_ (by first | omega | (simp; done) | (simp; omega)) _ | refine below_step (by assumption) (by first | omega | (simp; done) | (simp; omega)) ?_))).mono ?_
  rintro e w1 ⟨⟨i, rfl, hi⟩, hb1⟩
  have Hi := Lib.hid hi
  clear hi
  go_wp2
  go_ret
  exact ⟨bool_ret Hi.out, by repeat (first | exact Below.refl _ _ | refine below_dN ?_ _ | refine Below.drew ?_ | refine Below.alloc ?_ (by first | omega | (simp; done) | (simp; omega)) _ | refine Below.setCell ?_ (by first | omega | (simp; done) | (simp; omega)) _ | refine below_step (by assumption) (by first | omega | (simp; done) | (simp; omega)) ?_)⟩

def ovl (l : List (Int × Int)) : Bool := decide ((64 : Int) < l.length)
theorem over_any (hs : List Hd) : anyB hs.length (fun k => over (hd hs k)) = (hs.map Hd.l).any ovl := by
  rw [Bool.eq_iff_iff, anyB_true, List.any_map, List.any_eq_true]
  constructor
  · rintro ⟨k, hk, h⟩; exact ⟨hd hs k, hd_mem hk, h⟩
  · rintro ⟨x, hx, h⟩
    obtain ⟨k, hk, rfl⟩ := List.mem_iff_getElem.1 hx
    exact ⟨k, hk, by show ovl (hd hs k).l = true; unfold hd; simpa [List.getD, List.getElem?_eq_getElem hk] using h⟩
theorem lgO_any (o : Opr) (h : o.effs.length ≤ 64) : lgO o = (cndO o o.effs.length).any ovl := by
  unfold lgO cndO
  rw [show decide ((64 : Int) < o.effs.length) = false by simp; omega, Bool.or_false, List.any_cons, List.any_map]
  rfl
theorem lg_any (t : Tsk) (e1 : decide ((64 : Int) < t.vars.length) = false) (e2 : decide ((4096 : Int) < t.ops.length) = false) (he : ∀ k, k < t.ops.length → (opr t.ops k).effs.length ≤ 64) : lgT t = (cnds t t.ops.length).any ovl := by
  unfold lgT cnds
  rw [e1, e2, List.any_cons, List.any_flatMap, Bool.false_or, Bool.false_or]
  congr 1
  rw [Bool.eq_iff_iff, anyB_true, List.any_eq_true]
  constructor
  · rintro ⟨k, hk, h⟩; exact ⟨k, List.mem_range.2 hk, by rw [← lgO_any _ (he k hk)]; exact h⟩
  · rintro ⟨k, hk, h⟩
    rw [List.mem_range] at hk
    exact ⟨k, hk, by rw [lgO_any _ (he k hk)]; exact h⟩

set_option maxHeartbeats 1000000 in
theorem tlarge_any (t : Tsk) (p : Lies) (w : World) (ht : TaskAt w w.heap.size t p) :
    Calls Tryz.prog 52 #[TaskV t p] w fun e w' => e = .returned (.bool (lgT t)) ∧ Below w.heap.size w w' := by
  have k1 := fun w1 hm he (hb : Below w.heap.size w w1) => conditions_any t p w1 (ht.up hb) hm he
  obtain ⟨av, ai, ag, ao, cv, ci, cg, co⟩ := p
  unfold TaskV at *
  dsimp only at *
  have l1 := ht.vars.len
  have l2 := ht.init.len
  have l3 := ht.goal.len
  have l4 := ht.ops.len
  cases e1 : decide ((64 : Int) < t.vars.length)
  case true =>
    have Hf := Lib.hid (show lgT t = true by unfold lgT; rw [e1]; rfl)
    go_enter Tryz.func52, Tryz.ntmps52
    go_wp2
    go_ret
    exact ⟨bool_ret (by rw [Hf.out]), by repeat (first | exact Below.refl _ _ | refine below_dN ?_ _ | refine Below.drew ?_ | refine Below.alloc ?_ (by first | omega | (simp; done) | (simp; omega)) _ | refine Below.setCell ?_ (by first | omega | (simp; done) | (simp; omega)) _ | refine below_step (by assumption) (by first | omega | (simp; done) | (simp; omega)) ?_)⟩
  cases e2 : decide ((4096 : Int) < t.ops.length)
  case true =>
    have Hf := Lib.hid (show lgT t = true by unfold lgT; rw [e1, e2]; rfl)
    go_enter Tryz.func52, Tryz.ntmps52
    go_wp2
    go_ret
    exact ⟨bool_ret (by rw [Hf.out]), by repeat (first | exact Below.refl _ _ | refine below_dN ?_ _ | refine Below.drew ?_ | refine Below.alloc ?_ (by first | omega | (simp; done) | (simp; omega)) _ | refine Below.setCell ?_ (by first | omega | (simp; done) | (simp; omega)) _ | refine below_step (by assumption) (by first | omega | (simp; done) | (simp; omega)) ?_)⟩
  have hm : t.ops.length ≤ 4096 := by simp at e2; omega
  go_enter Tryz.func52, Tryz.ntmps52
  go_wp2
  go_loopw [18] (fun i wr => ∃ k : Nat, k ≤ t.ops.length ∧ i = .int .i64 k ∧ (∀ j, j < k → (opr t.ops j).effs.length ≤ 64) ∧ Boxed wr w.heap.size t ⟨av, ai, ag, ao, cv, ci, cg, co⟩ ∧ Below w.heap.size w wr) (fun i _ => t.ops.length - (intOf i).toNat)
  case atStart => exact ⟨0, by omega, rfl, fun j hj => absurd hj (by omega), by constructor <;> simp, by repeat (first | exact Below.refl _ _ | refine below_dN ?_ _ | refine Below.drew ?_ | refine Below.alloc ?_ (by first | omega | (simp; done) | (simp; omega)) _ | refine Below.setCell ?_ (by first | omega | (simp; done) | (simp; omega)) _ | refine below_step (by assumption) (by first | omega | (simp; done) | (simp; omega)) ?_)⟩
  case round =>
    obtain ⟨k, hk, rfl, he, hbox, hbel⟩ := hrel
    have He := Lib.hid he
    clear he
    have Hbox := Lib.hid hbox
    obtain ⟨z0, y0, y1, y2, y3⟩ := hbox
    dsimp only at y0 y1 y2 y3
    by_cases hlt : k < t.ops.length
    · obtain ⟨b, o, S, c, T, d, ea, hb, d0, q0, d1, d2, f2, d3, e3⟩ := ht.ops.at2 hbel hlt; (try dsimp only at ea); subst ea; have hbz := hbel.size; have g2 : b < wr.heap.size := (by omega); have j1 := f2.len; have j2 := e3.len
      cases e3 : decide ((64 : Int) < (opr t.ops k).effs.length)
      · go_wp2
        go_roundw
        case rel => exact ⟨k + 1, by omega, by go_num, fun j hj => by rcases Nat.lt_succ_iff_lt_or_eq.1 hj with h | rfl; exact He.out j h; simp at e3; omega, Hbox.out.up (by repeat (first | exact Below.refl _ _ | refine below_dN ?_ _ | refine Below.drew ?_ | refine Below.alloc ?_ (by first | omega | (simp; done) | (simp; omega)) _ | refine Below.setCell ?_ (by first | omega | (simp; done) | (simp; omega)) _ | refine below_step (by assumption) (by first | omega | (simp; done) | (simp; omega)) ?_)), by repeat (first | exact Below.refl _ _ | refine below_dN ?_ _ | refine Below.drew ?_ | refine Below.alloc ?_ (by first | omega | (simp; done) | (simp; omega)) _ | refine Below.setCell ?_ (by first | omega | (simp; done) | (simp; omega)) _ | refine below_step (by assumption) (by first | omega | (simp; done) | (simp; omega)) ?_)⟩
        case measure => simp [intOf]; omega
      · have Hf := Lib.hid (show lgT t = true by
          have h1 : anyB t.ops.length (fun k => lgO (opr t.ops k)) = true := anyB_true.2 ⟨k, hlt, by unfold lgO; rw [e3]; simp⟩
          unfold lgT; rw [h1, Bool.or_true])
        go_wp2
        go_ret
        exact ⟨bool_ret (by rw [Hf.out]), by repeat (first | exact Below.refl _ _ | refine below_dN ?_ _ | refine Below.drew ?_ | refine Below.alloc ?_ (by first | omega | (simp; done) | (simp; omega)) _ | refine Below.setCell ?_ (by first | omega | (simp; done) | (simp; omega)) _ | refine below_step (by assumption) (by first | omega | (simp; done) | (simp; omega)) ?_)⟩
    · obtain rfl : k = t.ops.length := by omega
      go_wp2_with fail
      refine (k1 _ hm He.out (by repeat (first | exact Below.refl _ _ | refine below_dN ?_ _ | refine Below.drew ?_ | refine Below.alloc ?_ (by first | omega | (simp; done) | (simp; omega)) _ | refine Below.setCell ?_ (by first | omega | (simp; done) | (simp; omega)) _ | refine below_step (by assumption) (by first | omega | (simp; done) | (simp; omega)) ?_))).mono ?_
      rintro e w1 ⟨⟨v, hs, rfl, hg, hl⟩, hb1⟩
      have Hl := Lib.hid (show lgT t = anyB hs.length (fun k => over (hd hs k)) by rw [over_any, hg.lists]; exact lg_any t e1 e2 He.out)
      have hn : 0 < hs.length := by have h := congrArg List.length hg.lists; rw [List.length_map] at h; unfold cnds at h; rw [List.length_cons] at h; omega
      go_wp2_with fail
      refine (containsf_any _ v _ hs _ (hg.keep (by repeat (first | exact Below.refl _ _ | refine below_dN ?_ _ | refine Below.drew ?_ | refine Below.alloc ?_ (by first | omega | (simp; done) | (simp; omega)) _ | refine Below.setCell ?_ (by first | omega | (simp; done) | (simp; omega)) _ | refine below_step (by assumption) (by first | omega | (simp; done) | (simp; omega)) ?_))) (by omega) hn).mono ?_
      rintro e w2 ⟨rfl, hb2⟩
      go_wp2
      go_ret
      have hy0 := hbel.size
      have hy1 := hb1.size
      exact ⟨bool_ret (by rw [Hl.out]), by repeat (first | exact Below.refl _ _ | refine below_dN ?_ _ | refine Below.drew ?_ | refine Below.alloc ?_ (by first | omega | (simp; done) | (simp; omega)) _ | refine Below.setCell ?_ (by first | omega | (simp; done) | (simp; omega)) _ | refine below_step (by assumption) (by first | omega | (simp; done) | (simp; omega)) ?_)⟩
end

section
open Go.RowKit
set_option linter.unusedVariables false

/-- An error value by its number. -/
def erV (c : Int) : Value := if c = 0 then .nilIface else .iface 72 (.int .i64 c)
theorem ret_er {c d : Int} (h : c = d) : Ending.returned (erV c) = .returned (erV d) := by rw [h]

def faAll (vars : List Int) (cs : List (List (Int × Int))) : Bool := cs.all fun l => faB vars l
theorem faAll_hs (vars : List Int) (hs : List Hd) : faAll vars (hs.map Hd.l) = !anyB hs.length fun k => !faB vars (hd hs k).l := by
  unfold faAll
  rw [Bool.eq_iff_iff, List.all_eq_true, Bool.not_eq_true', anyB_false]
  constructor
  · intro h k hk; rw [h _ (List.mem_map_of_mem (hd_mem hk))]; rfl
  · intro h l hl
    obtain ⟨x, hx, rfl⟩ := List.mem_map.1 hl
    obtain ⟨k, hk, rfl⟩ := List.mem_iff_getElem.1 hx
    have := h k hk
    unfold hd at this
    simpa [List.getD, List.getElem?_eq_getElem hk] using this
/-- Is an effect's own fact wrong? -/
def badE (vars : List Int) (e : Eff) : Bool := !faB vars [(e.var, e.val)]
def badO (vars : List Int) (o : Opr) : Bool := anyB o.effs.length fun k => badE vars (eff o.effs k)
theorem faAll_iff (vars : List Int) (t : Tsk) (n : Nat) : faAll vars (cnds t n) = true ↔ faB vars t.goal = true ∧ ∀ k, k < n → faB vars (opr t.ops k).pre = true ∧ ∀ j, j < (opr t.ops k).effs.length → faB vars (eff (opr t.ops k).effs j).whn = true := by
  unfold faAll cnds cndO
  simp only [List.all_eq_true, List.mem_cons, List.mem_flatMap, List.mem_range, List.mem_map]
  constructor
  · intro h
    exact ⟨h _ (.inl rfl), fun k hk => ⟨h _ (.inr ⟨k, hk, .inl rfl⟩), fun j hj => h _ (.inr ⟨k, hk, .inr ⟨j, hj, rfl⟩⟩)⟩⟩
  · rintro ⟨h1, h2⟩ l (rfl | ⟨k, hk, rfl | ⟨j, hj, rfl⟩⟩)
    · exact h1
    · exact (h2 k hk).1
    · exact (h2 k hk).2 j hj
theorem bool_of_false {a b : Bool} (h : a = false ↔ b = false) : a = b := by cases a <;> cases b <;> simp_all
theorem malT_eq (t : Tsk) : malT t = (!stB t.vars t.init || (!faAll t.vars (cnds t t.ops.length) || anyB t.ops.length fun k => badO t.vars (opr t.ops k))) := by
  apply bool_of_false
  unfold malT
  simp only [Bool.or_eq_false_iff, Bool.not_eq_false', faAll_iff, anyB_false]
  unfold malO malE badO badE
  simp only [Bool.or_eq_false_iff, Bool.not_eq_false', anyB_false]
  constructor
  · rintro ⟨⟨h1, h2⟩, h3⟩
    exact ⟨h1, ⟨h2, fun k hk => ⟨(h3 k hk).1, fun j hj => ((h3 k hk).2 j hj).1⟩⟩, fun k hk j hj => ((h3 k hk).2 j hj).2⟩
  · rintro ⟨h1, ⟨h2, h3⟩, h4⟩
    exact ⟨⟨h1, h2⟩, fun k hk => ⟨(h3 k hk).1, fun j hj => ⟨(h3 k hk).2 j hj, h4 k hk j hj⟩⟩⟩
theorem lg_sizes {t : Tsk} (h : lgT t = false) : t.ops.length ≤ 4096 ∧ ∀ k, k < t.ops.length → (opr t.ops k).effs.length ≤ 64 := by
  unfold lgT at h
  simp only [Bool.or_eq_false_iff, anyB_false] at h
  refine ⟨by have := h.1.1.2; simp at this; omega, fun k hk => ?_⟩
  have h2 := h.2 k hk
  unfold lgO at h2
  simp only [Bool.or_eq_false_iff] at h2
  have := h2.1.2
  simp at this; omega

set_option maxRecDepth 4000 in
set_option maxHeartbeats 4000000 in
theorem tcheck_any (t : Tsk) (p : Lies) (w : World) (ht : TaskAt w w.heap.size t p) :
    Calls Tryz.prog 31 #[TaskV t p] w fun e w' => e = .returned (erV (chkC t)) ∧ Below w.heap.size w w' := by
  have k1 := fun w1 (hb : Below w.heap.size w w1) => tlarge_any t p w1 (ht.up hb)
  have k3 := fun w1 hm he (hb : Below w.heap.size w w1) => conditions_any t p w1 (ht.up hb) hm he
  obtain ⟨av, ai, ag, ao, cv, ci, cg, co⟩ := p
  unfold TaskV at *
  dsimp only at *
  have k2 := fun w1 (hb : Below w.heap.size w w1) => proper_any t.vars t.init av ai cv ci w1 (ht.vars.up hb) (ht.init.up hb)
  have l1 := ht.vars.len
  have l2 := ht.init.len
  have l3 := ht.goal.len
  have l4 := ht.ops.len
  cases e1 : lgT t
  case true =>
    have Hc := Lib.hid (show chkC t = 5 by unfold chkC; rw [e1]; rfl)
    go_enter Tryz.func31, Tryz.ntmps31
    go_wp2_with fail; refine (k1 _ (by repeat (first | exact Below.refl _ _ | refine below_dN ?_ _ | refine Below.drew ?_ | refine Below.alloc ?_ (by first | omega | (simp; done) | (simp; omega)) _ | refine Below.setCell ?_ (by first | omega | (simp; done) | (simp; omega)) _ | refine below_step (by assumption) (by first | omega | (simp; done) | (simp; omega)) ?_))).mono ?_; rintro e w1 ⟨rfl, hb1⟩; obtain ⟨hc1, hf1, hz1, hlt1, hle1⟩ := cellsIf hb1 (by (try simp); exact rfl); (try have : w.heap.size < w1.heap.size := (by omega)); (try have : w.heap.size < w1.heap.size + 1 := (by omega)); (try have : w.heap.size < w1.heap.size + 1 + 1 := (by omega)); (try have : w.heap.size + 1 < w1.heap.size := (by omega)); (try have : w.heap.size + 1 < w1.heap.size + 1 := (by omega)); (try have : w.heap.size + 1 < w1.heap.size + 1 + 1 := (by omega)); (try have : w.heap.size + 1 + 1 < w1.heap.size := (by omega)); (try have : w.heap.size + 1 + 1 < w1.heap.size + 1 := (by omega)); (try have : w.heap.size + 1 + 1 < w1.heap.size + 1 + 1 := (by omega))
    go_wp2
    go_ret
    exact ⟨by rw [Hc.out]; rfl, by repeat (first | exact Below.refl _ _ | refine below_dN ?_ _ | refine Below.drew ?_ | refine Below.alloc ?_ (by first | omega | (simp; done) | (simp; omega)) _ | refine Below.setCell ?_ (by first | omega | (simp; done) | (simp; omega)) _ | refine below_step (by assumption) (by first | omega | (simp; done) | (simp; omega)) ?_)⟩
  have Hsz := Lib.hid (lg_sizes e1)
  have Ho := Lib.hid (show outT t = true → chkC t = 1 by intro h; unfold chkC; rw [e1, h]; rfl)
  have Hm := Lib.hid (show outT t = false → malT t = true → chkC t = 2 by intro h h2; unfold chkC; rw [e1, h, h2]; rfl)
  have Hn := Lib.hid (show outT t = false → malT t = false → misT t = true → chkC t = 8 by intro h h2 h3; unfold chkC; rw [e1, h, h2, h3]; rfl)
  have Hz := Lib.hid (show outT t = false → malT t = false → misT t = false → chkC t = 0 by intro h h2 h3; unfold chkC; rw [e1, h, h2, h3]; rfl)
  go_enter Tryz.func31, Tryz.ntmps31
  go_wp2_with fail; refine (k1 _ (by repeat (first | exact Below.refl _ _ | refine below_dN ?_ _ | refine Below.drew ?_ | refine Below.alloc ?_ (by first | omega | (simp; done) | (simp; omega)) _ | refine Below.setCell ?_ (by first | omega | (simp; done) | (simp; omega)) _ | refine below_step (by assumption) (by first | omega | (simp; done) | (simp; omega)) ?_))).mono ?_; rintro e w1 ⟨rfl, hb1⟩; obtain ⟨hc1, hf1, hz1, hlt1, hle1⟩ := cellsIf hb1 (by (try simp); exact rfl); (try have : w.heap.size < w1.heap.size := (by omega)); (try have : w.heap.size < w1.heap.size + 1 := (by omega)); (try have : w.heap.size < w1.heap.size + 1 + 1 := (by omega)); (try have : w.heap.size + 1 < w1.heap.size := (by omega)); (try have : w.heap.size + 1 < w1.heap.size + 1 := (by omega)); (try have : w.heap.size + 1 < w1.heap.size + 1 + 1 := (by omega)); (try have : w.heap.size + 1 + 1 < w1.heap.size := (by omega)); (try have : w.heap.size + 1 + 1 < w1.heap.size + 1 := (by omega)); (try have : w.heap.size + 1 + 1 < w1.heap.size + 1 + 1 := (by omega))
  go_wp2
  go_loopw [21] (fun i wr => ∃ k : Nat, k ≤ t.vars.length ∧ i = .int .i64 k ∧ (anyB k fun k => decide (nth t.vars k < 1) || decide (64 < nth t.vars k)) = false ∧ Boxed wr w.heap.size t ⟨av, ai, ag, ao, cv, ci, cg, co⟩ ∧ Below w.heap.size w wr) (fun i _ => t.vars.length - (intOf i).toNat)
  case atStart => exact ⟨0, by omega, rfl, rfl, by constructor <;> first | omega | simp [hc1], by repeat (first | exact Below.refl _ _ | refine below_dN ?_ _ | refine Below.drew ?_ | refine Below.alloc ?_ (by first | omega | (simp; done) | (simp; omega)) _ | refine Below.setCell ?_ (by first | omega | (simp; done) | (simp; omega)) _ | refine below_step (by assumption) (by first | omega | (simp; done) | (simp; omega)) ?_)⟩
  case round =>
    clear hc1 hf1 hz1 hlt1 hle1 hb1
    obtain ⟨k, hk, rfl, hB, hbox, hbel⟩ := hrel
    have HB := Lib.hid hB
    clear hB
    obtain ⟨z0, y0, y1, y2, y3⟩ := id hbox
    dsimp only at y0 y1 y2 y3
    by_cases hlt : k < t.vars.length
    · obtain ⟨b1, o1, ea, hb1, hc1⟩ := ht.vars.at_ hlt
      dsimp only at ea
      subst ea
      have d1 := (hbel.cell (p := ⟨b1, o1 + k, none⟩) hb1).trans (hc1 k hlt)
      have hbz := hbel.size
      clear hc1
      cases e2 : decide (nth t.vars k < 1) <;> cases e3 : decide (64 < nth t.vars k) <;> go_wp2
      all_goals first
        | (go_roundw
           case rel => exact ⟨k + 1, by omega, by go_num, (by rw [anyB_succ, HB.out, e2, e3]; rfl), hbox.up (by repeat (first | exact Below.refl _ _ | refine below_dN ?_ _ | refine Below.drew ?_ | refine Below.alloc ?_ (by first | omega | (simp; done) | (simp; omega)) _ | refine Below.setCell ?_ (by first | omega | (simp; done) | (simp; omega)) _ | refine below_step (by assumption) (by first | omega | (simp; done) | (simp; omega)) ?_)), by repeat (first | exact Below.refl _ _ | refine below_dN ?_ _ | refine Below.drew ?_ | refine Below.alloc ?_ (by first | omega | (simp; done) | (simp; omega)) _ | refine Below.setCell ?_ (by first | omega | (simp; done) | (simp; omega)) _ | refine below_step (by assumption) (by first | omega | (simp; done) | (simp; omega)) ?_)⟩
           case measure => simp [intOf]; omega)
        | (go_ret
           have hf : (anyB t.vars.length fun k => decide (nth t.vars k < 1) || decide (64 < nth t.vars k)) = true := anyB_true.2 ⟨k, hlt, by rw [e2, e3]; rfl⟩
           exact ⟨by rw [Ho.out (by unfold outT; rw [hf, Bool.true_or])]; rfl, by repeat (first | exact Below.refl _ _ | refine below_dN ?_ _ | refine Below.drew ?_ | refine Below.alloc ?_ (by first | omega | (simp; done) | (simp; omega)) _ | refine Below.setCell ?_ (by first | omega | (simp; done) | (simp; omega)) _ | refine below_step (by assumption) (by first | omega | (simp; done) | (simp; omega)) ?_)⟩)
    · obtain rfl : k = t.vars.length := by omega
      have HB1 := HB
      go_wp2
      go_loopw [36] (fun i wr => ∃ k : Nat, k ≤ t.ops.length ∧ i = .int .i64 k ∧ (anyB k fun k => decide ((opr t.ops k).cost < 0) || decide (1048576 < (opr t.ops k).cost)) = false ∧ Boxed wr w.heap.size t ⟨av, ai, ag, ao, cv, ci, cg, co⟩ ∧ Below w.heap.size w wr) (fun i _ => t.ops.length - (intOf i).toNat)
      case atStart => exact ⟨0, by omega, rfl, rfl, hbox, by repeat (first | exact Below.refl _ _ | refine below_dN ?_ _ | refine Below.drew ?_ | refine Below.alloc ?_ (by first | omega | (simp; done) | (simp; omega)) _ | refine Below.setCell ?_ (by first | omega | (simp; done) | (simp; omega)) _ | refine below_step (by assumption) (by first | omega | (simp; done) | (simp; omega)) ?_)⟩
      case round =>
        clear z0 y0 y1 y2 y3 hbox hbel hlt HB
        obtain ⟨k, hk, rfl, hB, hbox, hbel⟩ := hrel
        have HB := Lib.hid hB
        clear hB
        obtain ⟨z0, y0, y1, y2, y3⟩ := id hbox
        dsimp only at y0 y1 y2 y3
        by_cases hlt : k < t.ops.length
        · obtain ⟨b, o, S, c, T, d, ea, hb, d0, q0, d1, d2, f2, d3, e3⟩ := ht.ops.at2 hbel hlt; (try dsimp only at ea); subst ea; have hbz := hbel.size; have g2 : b < wr.heap.size := (by omega); have j1 := f2.len; have j2 := e3.len
          cases e2 : decide ((opr t.ops k).cost < 0) <;> cases e3 : decide (1048576 < (opr t.ops k).cost) <;> go_wp2
          all_goals first
            | (go_roundw
               case rel => exact ⟨k + 1, by omega, by go_num, (by rw [anyB_succ, HB.out, e2, e3]; rfl), hbox.up (by repeat (first | exact Below.refl _ _ | refine below_dN ?_ _ | refine Below.drew ?_ | refine Below.alloc ?_ (by first | omega | (simp; done) | (simp; omega)) _ | refine Below.setCell ?_ (by first | omega | (simp; done) | (simp; omega)) _ | refine below_step (by assumption) (by first | omega | (simp; done) | (simp; omega)) ?_)), by repeat (first | exact Below.refl _ _ | refine below_dN ?_ _ | refine Below.drew ?_ | refine Below.alloc ?_ (by first | omega | (simp; done) | (simp; omega)) _ | refine Below.setCell ?_ (by first | omega | (simp; done) | (simp; omega)) _ | refine below_step (by assumption) (by first | omega | (simp; done) | (simp; omega)) ?_)⟩
               case measure => simp [intOf]; omega)
            | (go_ret
               have hf : (anyB t.ops.length fun k => decide ((opr t.ops k).cost < 0) || decide (1048576 < (opr t.ops k).cost)) = true := anyB_true.2 ⟨k, hlt, by rw [e2, e3]; rfl⟩
               exact ⟨by rw [Ho.out (by unfold outT; rw [hf, Bool.or_true])]; rfl, by repeat (first | exact Below.refl _ _ | refine below_dN ?_ _ | refine Below.drew ?_ | refine Below.alloc ?_ (by first | omega | (simp; done) | (simp; omega)) _ | refine Below.setCell ?_ (by first | omega | (simp; done) | (simp; omega)) _ | refine below_step (by assumption) (by first | omega | (simp; done) | (simp; omega)) ?_)⟩)
        · obtain rfl : k = t.ops.length := by omega
          have Hout := Lib.hid (show outT t = false by unfold outT; rw [HB1.out, HB.out]; rfl)
          clear HB HB1
          have hbz := hbel.size
          cases e4 : stB t.vars t.init
          · have Hc := Lib.hid (Hm.out Hout.out (by rw [malT_eq, e4]; rfl))
            go_wp2_with fail; refine (k2 _ (by repeat (first | exact Below.refl _ _ | refine below_dN ?_ _ | refine Below.drew ?_ | refine Below.alloc ?_ (by first | omega | (simp; done) | (simp; omega)) _ | refine Below.setCell ?_ (by first | omega | (simp; done) | (simp; omega)) _ | refine below_step (by assumption) (by first | omega | (simp; done) | (simp; omega)) ?_))).mono ?_; rintro e w1 ⟨rfl, hb1⟩; obtain ⟨hc1, hf1, hz1, hlt1, hle1⟩ := cellsIf hb1 (by (try simp); exact rfl); (try have : w.heap.size < w1.heap.size := (by omega)); (try have : w.heap.size < w1.heap.size + 1 := (by omega)); (try have : w.heap.size < w1.heap.size + 1 + 1 := (by omega)); (try have : w.heap.size + 1 < w1.heap.size := (by omega)); (try have : w.heap.size + 1 < w1.heap.size + 1 := (by omega)); (try have : w.heap.size + 1 < w1.heap.size + 1 + 1 := (by omega)); (try have : w.heap.size + 1 + 1 < w1.heap.size := (by omega)); (try have : w.heap.size + 1 + 1 < w1.heap.size + 1 := (by omega)); (try have : w.heap.size + 1 + 1 < w1.heap.size + 1 + 1 := (by omega))
            go_wp2
            go_ret
            exact ⟨by rw [Hc.out]; rfl, by repeat (first | exact Below.refl _ _ | refine below_dN ?_ _ | refine Below.drew ?_ | refine Below.alloc ?_ (by first | omega | (simp; done) | (simp; omega)) _ | refine Below.setCell ?_ (by first | omega | (simp; done) | (simp; omega)) _ | refine below_step (by assumption) (by first | omega | (simp; done) | (simp; omega)) ?_)⟩
          have HB4 := Lib.hid e4
          go_wp2_with fail; refine (k2 _ (by repeat (first | exact Below.refl _ _ | refine below_dN ?_ _ | refine Below.drew ?_ | refine Below.alloc ?_ (by first | omega | (simp; done) | (simp; omega)) _ | refine Below.setCell ?_ (by first | omega | (simp; done) | (simp; omega)) _ | refine below_step (by assumption) (by first | omega | (simp; done) | (simp; omega)) ?_))).mono ?_; rintro e w1 ⟨rfl, hb1⟩; obtain ⟨hc1, hf1, hz1, hlt1, hle1⟩ := cellsIf hb1 (by (try simp); exact rfl); (try have : w.heap.size < w1.heap.size := (by omega)); (try have : w.heap.size < w1.heap.size + 1 := (by omega)); (try have : w.heap.size < w1.heap.size + 1 + 1 := (by omega)); (try have : w.heap.size + 1 < w1.heap.size := (by omega)); (try have : w.heap.size + 1 < w1.heap.size + 1 := (by omega)); (try have : w.heap.size + 1 < w1.heap.size + 1 + 1 := (by omega)); (try have : w.heap.size + 1 + 1 < w1.heap.size := (by omega)); (try have : w.heap.size + 1 + 1 < w1.heap.size + 1 := (by omega)); (try have : w.heap.size + 1 + 1 < w1.heap.size + 1 + 1 := (by omega))
          have hbw1 : Below w.heap.size w w1 := by repeat (first | exact Below.refl _ _ | refine below_dN ?_ _ | refine Below.drew ?_ | refine Below.alloc ?_ (by first | omega | (simp; done) | (simp; omega)) _ | refine Below.setCell ?_ (by first | omega | (simp; done) | (simp; omega)) _ | refine below_step (by assumption) (by first | omega | (simp; done) | (simp; omega)) ?_)
          have hbox1 := hbox.up hb1
          go_wp2_with fail
          refine (k3 _ Hsz.out.1 Hsz.out.2 hbw1).mono ?_
          rintro e w2 ⟨⟨v, hs, rfl, hg, hl⟩, hb2⟩
          have hbw2 : Below w.heap.size w w2 := by repeat (first | exact Below.refl _ _ | refine below_dN ?_ _ | refine Below.drew ?_ | refine Below.alloc ?_ (by first | omega | (simp; done) | (simp; omega)) _ | refine Below.setCell ?_ (by first | omega | (simp; done) | (simp; omega)) _ | refine below_step (by assumption) (by first | omega | (simp; done) | (simp; omega)) ?_)
          have hbox2 := hbox1.up hb2
          have hn : 0 < hs.length := by have h := congrArg List.length hg.lists; rw [List.length_map] at h; unfold cnds at h; rw [List.length_cons] at h; omega
          have hl2 : hs.length ≤ 300000 := by have := Hsz.out.1; omega
          clear hl hc1 hf1 hlt1 hle1
          obtain ⟨g, cap, rfl, hgl, hcg⟩ := hg.at_ hn
          have Hcg := Lib.hid hcg
          clear hcg
          go_wp2
          clear z0 y0 y1 y2 y3 hb1 hbel hbz hbox hbox1
          go_loopw [60] (fun i wr => ∃ k : Nat, k ≤ hs.length ∧ i = .int .i64 k ∧ (anyB k fun k => !faB t.vars (hd hs k).l) = false ∧ Below w2.heap.size w2 wr) (fun i _ => hs.length - (intOf i).toNat)
          case atStart => exact ⟨0, by omega, rfl, rfl, by repeat (first | exact Below.refl _ _ | refine below_dN ?_ _ | refine Below.drew ?_ | refine Below.alloc ?_ (by first | omega | (simp; done) | (simp; omega)) _ | refine Below.setCell ?_ (by first | omega | (simp; done) | (simp; omega)) _ | refine below_step (by assumption) (by first | omega | (simp; done) | (simp; omega)) ?_)⟩
          case round =>
            obtain ⟨k, hk, rfl, hB, hbr⟩ := hrel
            have HB := Lib.hid hB
            clear hB
            have hbz := hbw2.size
            have hbz3 := hbr.size
            have hbel : Below w.heap.size w wr := hbw2.trans (hbr.mono hbz)
            have hbox := hbox2.up hbr
            obtain ⟨z0, y0, y1, y2, y3⟩ := id hbox
            dsimp only at y0 y1 y2 y3
            by_cases hlt : k < hs.length
            · have d1 := (hbr.cell (p := ⟨g, k, none⟩) hgl).trans (Hcg.out k hlt)
              have g1 : g < wr.heap.size := by omega
              have f1 := ((hg.facts _ (hd_mem hlt)).up hb2).up hbr
              have k4 := facts_any t.vars (hd hs k).l av (hd hs k).a cv (hd hs k).c wr (ht.vars.up hbel) f1
              cases e5 : faB t.vars (hd hs k).l
              · have Hc := Lib.hid (Hm.out Hout.out (by rw [malT_eq, ← hg.lists, faAll_hs, anyB_true.2 ⟨k, hlt, by rw [e5]; rfl⟩]; simp))
                go_wp2_with fail; refine (k4).mono ?_; rintro e w3 ⟨rfl, hb3⟩; obtain ⟨hc3, hf3, hz3, hlt3, hle3⟩ := cellsIf hb3 (by (try simp); exact rfl); (try have : w.heap.size < w3.heap.size := (by omega)); (try have : w.heap.size < w3.heap.size + 1 := (by omega)); (try have : w.heap.size < w3.heap.size + 1 + 1 := (by omega)); (try have : w.heap.size + 1 < w3.heap.size := (by omega)); (try have : w.heap.size + 1 < w3.heap.size + 1 := (by omega)); (try have : w.heap.size + 1 < w3.heap.size + 1 + 1 := (by omega)); (try have : w.heap.size + 1 + 1 < w3.heap.size := (by omega)); (try have : w.heap.size + 1 + 1 < w3.heap.size + 1 := (by omega)); (try have : w.heap.size + 1 + 1 < w3.heap.size + 1 + 1 := (by omega)); (try have : w1.heap.size < w3.heap.size := (by omega)); (try have : w1.heap.size < w3.heap.size + 1 := (by omega)); (try have : w1.heap.size < w3.heap.size + 1 + 1 := (by omega)); (try have : w1.heap.size + 1 < w3.heap.size := (by omega)); (try have : w1.heap.size + 1 < w3.heap.size + 1 := (by omega)); (try have : w1.heap.size + 1 < w3.heap.size + 1 + 1 := (by omega)); (try have : w1.heap.size + 1 + 1 < w3.heap.size := (by omega)); (try have : w1.heap.size + 1 + 1 < w3.heap.size + 1 := (by omega)); (try have : w1.heap.size + 1 + 1 < w3.heap.size + 1 + 1 := (by omega)); (try have : w2.heap.size < w3.heap.size := (by omega)); (try have : w2.heap.size < w3.heap.size + 1 := (by omega)); (try have : w2.heap.size < w3.heap.size + 1 + 1 := (by omega)); (try have : w2.heap.size + 1 < w3.heap.size := (by omega)); (try have : w2.heap.size + 1 < w3.heap.size + 1 := (by omega)); (try have : w2.heap.size + 1 < w3.heap.size + 1 + 1 := (by omega)); (try have : w2.heap.size + 1 + 1 < w3.heap.size := (by omega)); (try have : w2.heap.size + 1 + 1 < w3.heap.size + 1 := (by omega)); (try have : w2.heap.size + 1 + 1 < w3.heap.size + 1 + 1 := (by omega))
                go_wp2
                go_ret
                exact ⟨by rw [Hc.out]; rfl, by repeat (first | exact Below.refl _ _ | refine below_dN ?_ _ | refine Below.drew ?_ | refine Below.alloc ?_ (by first | omega | (simp; done) | (simp; omega)) _ | refine Below.setCell ?_ (by first | omega | (simp; done) | (simp; omega)) _ | refine below_step (by assumption) (by first | omega | (simp; done) | (simp; omega)) ?_)⟩
              · go_wp2_with fail; refine (k4).mono ?_; rintro e w3 ⟨rfl, hb3⟩; obtain ⟨hc3, hf3, hz3, hlt3, hle3⟩ := cellsIf hb3 (by (try simp); exact rfl); (try have : w.heap.size < w3.heap.size := (by omega)); (try have : w.heap.size < w3.heap.size + 1 := (by omega)); (try have : w.heap.size < w3.heap.size + 1 + 1 := (by omega)); (try have : w.heap.size + 1 < w3.heap.size := (by omega)); (try have : w.heap.size + 1 < w3.heap.size + 1 := (by omega)); (try have : w.heap.size + 1 < w3.heap.size + 1 + 1 := (by omega)); (try have : w.heap.size + 1 + 1 < w3.heap.size := (by omega)); (try have : w.heap.size + 1 + 1 < w3.heap.size + 1 := (by omega)); (try have : w.heap.size + 1 + 1 < w3.heap.size + 1 + 1 := (by omega)); (try have : w1.heap.size < w3.heap.size := (by omega)); (try have : w1.heap.size < w3.heap.size + 1 := (by omega)); (try have : w1.heap.size < w3.heap.size + 1 + 1 := (by omega)); (try have : w1.heap.size + 1 < w3.heap.size := (by omega)); (try have : w1.heap.size + 1 < w3.heap.size + 1 := (by omega)); (try have : w1.heap.size + 1 < w3.heap.size + 1 + 1 := (by omega)); (try have : w1.heap.size + 1 + 1 < w3.heap.size := (by omega)); (try have : w1.heap.size + 1 + 1 < w3.heap.size + 1 := (by omega)); (try have : w1.heap.size + 1 + 1 < w3.heap.size + 1 + 1 := (by omega)); (try have : w2.heap.size < w3.heap.size := (by omega)); (try have : w2.heap.size < w3.heap.size + 1 := (by omega)); (try have : w2.heap.size < w3.heap.size + 1 + 1 := (by omega)); (try have : w2.heap.size + 1 < w3.heap.size := (by omega)); (try have : w2.heap.size + 1 < w3.heap.size + 1 := (by omega)); (try have : w2.heap.size + 1 < w3.heap.size + 1 + 1 := (by omega)); (try have : w2.heap.size + 1 + 1 < w3.heap.size := (by omega)); (try have : w2.heap.size + 1 + 1 < w3.heap.size + 1 := (by omega)); (try have : w2.heap.size + 1 + 1 < w3.heap.size + 1 + 1 := (by omega))
                go_wp2
                go_roundw
                case rel => exact ⟨k + 1, by omega, by go_num, (by rw [anyB_succ, HB.out, e5]; rfl), hbr.trans (hb3.mono hbz3)⟩
                case measure => simp [intOf]; omega
            · obtain rfl : k = hs.length := by omega
              have Hfa := Lib.hid (show faAll t.vars (cnds t t.ops.length) = true by rw [← hg.lists, faAll_hs, HB.out]; rfl)
              clear HB hlt
              go_wp2
              go_loopw [74] (fun i wr => ∃ k : Nat, k ≤ t.ops.length ∧ i = .int .i64 k ∧ (anyB k fun k => badO t.vars (opr t.ops k)) = false ∧ Boxed wr w.heap.size t ⟨av, ai, ag, ao, cv, ci, cg, co⟩ ∧ Below w.heap.size w wr) (fun i _ => t.ops.length - (intOf i).toNat)
              case atStart => exact ⟨0, by omega, rfl, rfl, hbox, by repeat (first | exact Below.refl _ _ | refine below_dN ?_ _ | refine Below.drew ?_ | refine Below.alloc ?_ (by first | omega | (simp; done) | (simp; omega)) _ | refine Below.setCell ?_ (by first | omega | (simp; done) | (simp; omega)) _ | refine below_step (by assumption) (by first | omega | (simp; done) | (simp; omega)) ?_)⟩
              case round =>
                clear z0 y0 y1 y2 y3 hbox hbel hbr hbz hbz3 hb2
                obtain ⟨k, hk, rfl, hB, hbox, hbel⟩ := hrel
                have HB := Lib.hid hB
                clear hB
                obtain ⟨z0, y0, y1, y2, y3⟩ := id hbox
                dsimp only at y0 y1 y2 y3
                by_cases hlt : k < t.ops.length
                · obtain ⟨b, o, S, c, T, d, ea, hb, d0, q0, d1, d2, f2, d3, e3⟩ := ht.ops.at2 hbel hlt; (try dsimp only at ea); subst ea; have hbz := hbel.size; have g2 : b < wr.heap.size := (by omega); have j1 := f2.len; have j2 := e3.len
                  go_wp2
                  go_loopw [81] (fun i wx => ∃ j : Nat, j ≤ (opr t.ops k).effs.length ∧ i = .int .i64 j ∧ (anyB j fun j => badE t.vars (eff (opr t.ops k).effs j)) = false ∧ Boxed wx w.heap.size t ⟨av, ai, ag, some ⟨b, o, none⟩, cv, ci, cg, co⟩ ∧ Below w.heap.size w wx) (fun i _ => (opr t.ops k).effs.length - (intOf i).toNat)
                  case atStart => exact ⟨0, by omega, rfl, rfl, hbox.up (by repeat (first | exact Below.refl _ _ | refine below_dN ?_ _ | refine Below.drew ?_ | refine Below.alloc ?_ (by first | omega | (simp; done) | (simp; omega)) _ | refine Below.setCell ?_ (by first | omega | (simp; done) | (simp; omega)) _ | refine below_step (by assumption) (by first | omega | (simp; done) | (simp; omega)) ?_)), by repeat (first | exact Below.refl _ _ | refine below_dN ?_ _ | refine Below.drew ?_ | refine Below.alloc ?_ (by first | omega | (simp; done) | (simp; omega)) _ | refine Below.setCell ?_ (by first | omega | (simp; done) | (simp; omega)) _ | refine below_step (by assumption) (by first | omega | (simp; done) | (simp; omega)) ?_)⟩
                  case round =>
                    clear z0 y0 y1 y2 y3 hbox
                    obtain ⟨j, hj, rfl, hB2, hbox, hbel2⟩ := hrel
                    have HB2 := Lib.hid hB2
                    clear hB2
                    obtain ⟨z0, y0, y1, y2, y3⟩ := id hbox
                    dsimp only at y0 y1 y2 y3
                    by_cases hlt2 : j < (opr t.ops k).effs.length
                    · obtain ⟨b', o', S', c', ea', hb', i0, f5, i1, i2⟩ := e3.at2 hbel2 hlt2; subst ea'; have hbz2 := hbel2.size; have g3 : b' < wr.heap.size := (by omega); have j3 := f5.len
                      have k5 := fun w1 b (hb : Below w.heap.size w w1) (hf : FactsAt w1 w1.heap.size (some ⟨b, 0, none⟩) [((eff (opr t.ops k).effs j).var, (eff (opr t.ops k).effs j).val)]) => facts_any t.vars [((eff (opr t.ops k).effs j).var, (eff (opr t.ops k).effs j).val)] av (some ⟨b, 0, none⟩) cv 1 w1 (ht.vars.up hb) hf
                      cases e6 : faB t.vars [((eff (opr t.ops k).effs j).var, (eff (opr t.ops k).effs j).val)]
                      · have hbd : anyB t.ops.length (fun k => badO t.vars (opr t.ops k)) = true := anyB_true.2 ⟨k, hlt, anyB_true.2 ⟨j, hlt2, by unfold badE; rw [e6]; rfl⟩⟩
                        have Hc := Lib.hid (Hm.out Hout.out (by rw [malT_eq, hbd]; simp))
                        clear hbd
                        go_wp2_with fail; refine (k5 _ _ (by repeat (first | exact Below.refl _ _ | refine below_dN ?_ _ | refine Below.drew ?_ | refine Below.alloc ?_ (by first | omega | (simp; done) | (simp; omega)) _ | refine Below.setCell ?_ (by first | omega | (simp; done) | (simp; omega)) _ | refine below_step (by assumption) (by first | omega | (simp; done) | (simp; omega)) ?_)) (factsAt_one (by simp) (by simp) (by simp))).mono ?_; rintro e w4 ⟨rfl, hb4⟩; obtain ⟨hc4, hf4, hz4, hlt4, hle4⟩ := cellsIf hb4 (by (try simp); exact rfl); (try have : w.heap.size < w4.heap.size := (by omega)); (try have : w.heap.size < w4.heap.size + 1 := (by omega)); (try have : w.heap.size < w4.heap.size + 1 + 1 := (by omega)); (try have : w.heap.size + 1 < w4.heap.size := (by omega)); (try have : w.heap.size + 1 < w4.heap.size + 1 := (by omega)); (try have : w.heap.size + 1 < w4.heap.size + 1 + 1 := (by omega)); (try have : w.heap.size + 1 + 1 < w4.heap.size := (by omega)); (try have : w.heap.size + 1 + 1 < w4.heap.size + 1 := (by omega)); (try have : w.heap.size + 1 + 1 < w4.heap.size + 1 + 1 := (by omega)); (try have : w1.heap.size < w4.heap.size := (by omega)); (try have : w1.heap.size < w4.heap.size + 1 := (by omega)); (try have : w1.heap.size < w4.heap.size + 1 + 1 := (by omega)); (try have : w1.heap.size + 1 < w4.heap.size := (by omega)); (try have : w1.heap.size + 1 < w4.heap.size + 1 := (by omega)); (try have : w1.heap.size + 1 < w4.heap.size + 1 + 1 := (by omega)); (try have : w1.heap.size + 1 + 1 < w4.heap.size := (by omega)); (try have : w1.heap.size + 1 + 1 < w4.heap.size + 1 := (by omega)); (try have : w1.heap.size + 1 + 1 < w4.heap.size + 1 + 1 := (by omega)); (try have : w2.heap.size < w4.heap.size := (by omega)); (try have : w2.heap.size < w4.heap.size + 1 := (by omega)); (try have : w2.heap.size < w4.heap.size + 1 + 1 := (by omega)); (try have : w2.heap.size + 1 < w4.heap.size := (by omega)); (try have : w2.heap.size + 1 < w4.heap.size + 1 := (by omega)); (try have : w2.heap.size + 1 < w4.heap.size + 1 + 1 := (by omega)); (try have : w2.heap.size + 1 + 1 < w4.heap.size := (by omega)); (try have : w2.heap.size + 1 + 1 < w4.heap.size + 1 := (by omega)); (try have : w2.heap.size + 1 + 1 < w4.heap.size + 1 + 1 := (by omega)); (try have : w3.heap.size < w4.heap.size := (by omega)); (try have : w3.heap.size < w4.heap.size + 1 := (by omega)); (try have : w3.heap.size < w4.heap.size + 1 + 1 := (by omega)); (try have : w3.heap.size + 1 < w4.heap.size := (by omega)); (try have : w3.heap.size + 1 < w4.heap.size + 1 := (by omega)); (try have : w3.heap.size + 1 < w4.heap.size + 1 + 1 := (by omega)); (try have : w3.heap.size + 1 + 1 < w4.heap.size := (by omega)); (try have : w3.heap.size + 1 + 1 < w4.heap.size + 1 := (by omega)); (try have : w3.heap.size + 1 + 1 < w4.heap.size + 1 + 1 := (by omega))
                        go_wp2
                        go_ret
                        exact ⟨by rw [Hc.out]; rfl, by repeat (first | exact Below.refl _ _ | refine below_dN ?_ _ | refine Below.drew ?_ | refine Below.alloc ?_ (by first | omega | (simp; done) | (simp; omega)) _ | refine Below.setCell ?_ (by first | omega | (simp; done) | (simp; omega)) _ | refine below_step (by assumption) (by first | omega | (simp; done) | (simp; omega)) ?_)⟩
                      · go_wp2_with fail; refine (k5 _ _ (by repeat (first | exact Below.refl _ _ | refine below_dN ?_ _ | refine Below.drew ?_ | refine Below.alloc ?_ (by first | omega | (simp; done) | (simp; omega)) _ | refine Below.setCell ?_ (by first | omega | (simp; done) | (simp; omega)) _ | refine below_step (by assumption) (by first | omega | (simp; done) | (simp; omega)) ?_)) (factsAt_one (by simp) (by simp) (by simp))).mono ?_; rintro e w4 ⟨rfl, hb4⟩; obtain ⟨hc4, hf4, hz4, hlt4, hle4⟩ := cellsIf hb4 (by (try simp); exact rfl); (try have : w.heap.size < w4.heap.size := (by omega)); (try have : w.heap.size < w4.heap.size + 1 := (by omega)); (try have : w.heap.size < w4.heap.size + 1 + 1 := (by omega)); (try have : w.heap.size + 1 < w4.heap.size := (by omega)); (try have : w.heap.size + 1 < w4.heap.size + 1 := (by omega)); (try have : w.heap.size + 1 < w4.heap.size + 1 + 1 := (by omega)); (try have : w.heap.size + 1 + 1 < w4.heap.size := (by omega)); (try have : w.heap.size + 1 + 1 < w4.heap.size + 1 := (by omega)); (try have : w.heap.size + 1 + 1 < w4.heap.size + 1 + 1 := (by omega)); (try have : w1.heap.size < w4.heap.size := (by omega)); (try have : w1.heap.size < w4.heap.size + 1 := (by omega)); (try have : w1.heap.size < w4.heap.size + 1 + 1 := (by omega)); (try have : w1.heap.size + 1 < w4.heap.size := (by omega)); (try have : w1.heap.size + 1 < w4.heap.size + 1 := (by omega)); (try have : w1.heap.size + 1 < w4.heap.size + 1 + 1 := (by omega)); (try have : w1.heap.size + 1 + 1 < w4.heap.size := (by omega)); (try have : w1.heap.size + 1 + 1 < w4.heap.size + 1 := (by omega)); (try have : w1.heap.size + 1 + 1 < w4.heap.size + 1 + 1 := (by omega)); (try have : w2.heap.size < w4.heap.size := (by omega)); (try have : w2.heap.size < w4.heap.size + 1 := (by omega)); (try have : w2.heap.size < w4.heap.size + 1 + 1 := (by omega)); (try have : w2.heap.size + 1 < w4.heap.size := (by omega)); (try have : w2.heap.size + 1 < w4.heap.size + 1 := (by omega)); (try have : w2.heap.size + 1 < w4.heap.size + 1 + 1 := (by omega)); (try have : w2.heap.size + 1 + 1 < w4.heap.size := (by omega)); (try have : w2.heap.size + 1 + 1 < w4.heap.size + 1 := (by omega)); (try have : w2.heap.size + 1 + 1 < w4.heap.size + 1 + 1 := (by omega)); (try have : w3.heap.size < w4.heap.size := (by omega)); (try have : w3.heap.size < w4.heap.size + 1 := (by omega)); (try have : w3.heap.size < w4.heap.size + 1 + 1 := (by omega)); (try have : w3.heap.size + 1 < w4.heap.size := (by omega)); (try have : w3.heap.size + 1 < w4.heap.size + 1 := (by omega)); (try have : w3.heap.size + 1 < w4.heap.size + 1 + 1 := (by omega)); (try have : w3.heap.size + 1 + 1 < w4.heap.size := (by omega)); (try have : w3.heap.size + 1 + 1 < w4.heap.size + 1 := (by omega)); (try have : w3.heap.size + 1 + 1 < w4.heap.size + 1 + 1 := (by omega))
                        go_wp2
                        go_roundw
                        case rel => exact ⟨j + 1, by omega, by go_num, (by rw [anyB_succ, HB2.out]; unfold badE; rw [e6]; rfl), hbox.up (by repeat (first | exact Below.refl _ _ | refine below_dN ?_ _ | refine Below.drew ?_ | refine Below.alloc ?_ (by first | omega | (simp; done) | (simp; omega)) _ | refine Below.setCell ?_ (by first | omega | (simp; done) | (simp; omega)) _ | refine below_step (by assumption) (by first | omega | (simp; done) | (simp; omega)) ?_)), by repeat (first | exact Below.refl _ _ | refine below_dN ?_ _ | refine Below.drew ?_ | refine Below.alloc ?_ (by first | omega | (simp; done) | (simp; omega)) _ | refine Below.setCell ?_ (by first | omega | (simp; done) | (simp; omega)) _ | refine below_step (by assumption) (by first | omega | (simp; done) | (simp; omega)) ?_)⟩
                        case measure => simp [intOf]; omega
                    · obtain rfl : j = (opr t.ops k).effs.length := by omega
                      go_wp2
                      go_roundw
                      case rel => exact ⟨k + 1, by omega, by go_num, (by rw [anyB_succ, HB.out]; exact HB2.out), hbox, by repeat (first | exact Below.refl _ _ | refine below_dN ?_ _ | refine Below.drew ?_ | refine Below.alloc ?_ (by first | omega | (simp; done) | (simp; omega)) _ | refine Below.setCell ?_ (by first | omega | (simp; done) | (simp; omega)) _ | refine below_step (by assumption) (by first | omega | (simp; done) | (simp; omega)) ?_)⟩
                      case measure => simp [intOf]; omega
                · obtain rfl : k = t.ops.length := by omega
                  have Hmal := Lib.hid (show malT t = false by rw [malT_eq, HB4.out, Hfa.out, HB.out]; rfl)
                  clear HB hlt
                  go_wp2
                  go_loopw [101] (fun i wr => ∃ k : Nat, k ≤ t.ops.length ∧ i = .int .i64 k ∧ (anyB k fun k => misO (opr t.ops k).name) = false ∧ Below w.heap.size w wr) (fun i _ => t.ops.length - (intOf i).toNat)
                  case atStart => exact ⟨0, by omega, rfl, rfl, by repeat (first | exact Below.refl _ _ | refine below_dN ?_ _ | refine Below.drew ?_ | refine Below.alloc ?_ (by first | omega | (simp; done) | (simp; omega)) _ | refine Below.setCell ?_ (by first | omega | (simp; done) | (simp; omega)) _ | refine below_step (by assumption) (by first | omega | (simp; done) | (simp; omega)) ?_)⟩
                  case round =>
                    clear z0 y0 y1 y2 y3 hbox hbel
                    obtain ⟨k, hk, rfl, hB, hbel⟩ := hrel
                    have HB := Lib.hid hB
                    clear hB
                    by_cases hlt : k < t.ops.length
                    · obtain ⟨b, o, S, c, T, d, ea, hb, d0, q0, d1, d2, f2, d3, e3⟩ := ht.ops.at2 hbel hlt; (try dsimp only at ea); subst ea; have hbz := hbel.size; have g2 : b < wr.heap.size := (by omega); have j1 := f2.len; have j2 := e3.len
                      have k6 := fun w1 => named_any (opr t.ops k).name w1 q0
                      cases e7 : misO (opr t.ops k).name
                      · go_wp2_with fail; refine (k6 _).mono ?_; rintro e w5 ⟨rfl, hb5⟩; obtain ⟨hc5, hf5, hz5, hlt5, hle5⟩ := cellsIf hb5 (by (try simp); exact rfl); (try have : w.heap.size < w5.heap.size := (by omega)); (try have : w.heap.size < w5.heap.size + 1 := (by omega)); (try have : w.heap.size < w5.heap.size + 1 + 1 := (by omega)); (try have : w.heap.size + 1 < w5.heap.size := (by omega)); (try have : w.heap.size + 1 < w5.heap.size + 1 := (by omega)); (try have : w.heap.size + 1 < w5.heap.size + 1 + 1 := (by omega)); (try have : w.heap.size + 1 + 1 < w5.heap.size := (by omega)); (try have : w.heap.size + 1 + 1 < w5.heap.size + 1 := (by omega)); (try have : w.heap.size + 1 + 1 < w5.heap.size + 1 + 1 := (by omega)); (try have : w1.heap.size < w5.heap.size := (by omega)); (try have : w1.heap.size < w5.heap.size + 1 := (by omega)); (try have : w1.heap.size < w5.heap.size + 1 + 1 := (by omega)); (try have : w1.heap.size + 1 < w5.heap.size := (by omega)); (try have : w1.heap.size + 1 < w5.heap.size + 1 := (by omega)); (try have : w1.heap.size + 1 < w5.heap.size + 1 + 1 := (by omega)); (try have : w1.heap.size + 1 + 1 < w5.heap.size := (by omega)); (try have : w1.heap.size + 1 + 1 < w5.heap.size + 1 := (by omega)); (try have : w1.heap.size + 1 + 1 < w5.heap.size + 1 + 1 := (by omega)); (try have : w2.heap.size < w5.heap.size := (by omega)); (try have : w2.heap.size < w5.heap.size + 1 := (by omega)); (try have : w2.heap.size < w5.heap.size + 1 + 1 := (by omega)); (try have : w2.heap.size + 1 < w5.heap.size := (by omega)); (try have : w2.heap.size + 1 < w5.heap.size + 1 := (by omega)); (try have : w2.heap.size + 1 < w5.heap.size + 1 + 1 := (by omega)); (try have : w2.heap.size + 1 + 1 < w5.heap.size := (by omega)); (try have : w2.heap.size + 1 + 1 < w5.heap.size + 1 := (by omega)); (try have : w2.heap.size + 1 + 1 < w5.heap.size + 1 + 1 := (by omega)); (try have : w3.heap.size < w5.heap.size := (by omega)); (try have : w3.heap.size < w5.heap.size + 1 := (by omega)); (try have : w3.heap.size < w5.heap.size + 1 + 1 := (by omega)); (try have : w3.heap.size + 1 < w5.heap.size := (by omega)); (try have : w3.heap.size + 1 < w5.heap.size + 1 := (by omega)); (try have : w3.heap.size + 1 < w5.heap.size + 1 + 1 := (by omega)); (try have : w3.heap.size + 1 + 1 < w5.heap.size := (by omega)); (try have : w3.heap.size + 1 + 1 < w5.heap.size + 1 := (by omega)); (try have : w3.heap.size + 1 + 1 < w5.heap.size + 1 + 1 := (by omega)); (try have : w4.heap.size < w5.heap.size := (by omega)); (try have : w4.heap.size < w5.heap.size + 1 := (by omega)); (try have : w4.heap.size < w5.heap.size + 1 + 1 := (by omega)); (try have : w4.heap.size + 1 < w5.heap.size := (by omega)); (try have : w4.heap.size + 1 < w5.heap.size + 1 := (by omega)); (try have : w4.heap.size + 1 < w5.heap.size + 1 + 1 := (by omega)); (try have : w4.heap.size + 1 + 1 < w5.heap.size := (by omega)); (try have : w4.heap.size + 1 + 1 < w5.heap.size + 1 := (by omega)); (try have : w4.heap.size + 1 + 1 < w5.heap.size + 1 + 1 := (by omega))
                        go_wp2
                        go_roundw
                        case rel => exact ⟨k + 1, by omega, by go_num, (by rw [anyB_succ, HB.out, e7]; rfl), by repeat (first | exact Below.refl _ _ | refine below_dN ?_ _ | refine Below.drew ?_ | refine Below.alloc ?_ (by first | omega | (simp; done) | (simp; omega)) _ | refine Below.setCell ?_ (by first | omega | (simp; done) | (simp; omega)) _ | refine below_step (by assumption) (by first | omega | (simp; done) | (simp; omega)) ?_)⟩
                        case measure => simp [intOf]; omega
                      · have Hc := Lib.hid (Hn.out Hout.out Hmal.out (anyB_true.2 ⟨k, hlt, e7⟩))
                        go_wp2_with fail; refine (k6 _).mono ?_; rintro e w5 ⟨rfl, hb5⟩; obtain ⟨hc5, hf5, hz5, hlt5, hle5⟩ := cellsIf hb5 (by (try simp); exact rfl); (try have : w.heap.size < w5.heap.size := (by omega)); (try have : w.heap.size < w5.heap.size + 1 := (by omega)); (try have : w.heap.size < w5.heap.size + 1 + 1 := (by omega)); (try have : w.heap.size + 1 < w5.heap.size := (by omega)); (try have : w.heap.size + 1 < w5.heap.size + 1 := (by omega)); (try have : w.heap.size + 1 < w5.heap.size + 1 + 1 := (by omega)); (try have : w.heap.size + 1 + 1 < w5.heap.size := (by omega)); (try have : w.heap.size + 1 + 1 < w5.heap.size + 1 := (by omega)); (try have : w.heap.size + 1 + 1 < w5.heap.size + 1 + 1 := (by omega)); (try have : w1.heap.size < w5.heap.size := (by omega)); (try have : w1.heap.size < w5.heap.size + 1 := (by omega)); (try have : w1.heap.size < w5.heap.size + 1 + 1 := (by omega)); (try have : w1.heap.size + 1 < w5.heap.size := (by omega)); (try have : w1.heap.size + 1 < w5.heap.size + 1 := (by omega)); (try have : w1.heap.size + 1 < w5.heap.size + 1 + 1 := (by omega)); (try have : w1.heap.size + 1 + 1 < w5.heap.size := (by omega)); (try have : w1.heap.size + 1 + 1 < w5.heap.size + 1 := (by omega)); (try have : w1.heap.size + 1 + 1 < w5.heap.size + 1 + 1 := (by omega)); (try have : w2.heap.size < w5.heap.size := (by omega)); (try have : w2.heap.size < w5.heap.size + 1 := (by omega)); (try have : w2.heap.size < w5.heap.size + 1 + 1 := (by omega)); (try have : w2.heap.size + 1 < w5.heap.size := (by omega)); (try have : w2.heap.size + 1 < w5.heap.size + 1 := (by omega)); (try have : w2.heap.size + 1 < w5.heap.size + 1 + 1 := (by omega)); (try have : w2.heap.size + 1 + 1 < w5.heap.size := (by omega)); (try have : w2.heap.size + 1 + 1 < w5.heap.size + 1 := (by omega)); (try have : w2.heap.size + 1 + 1 < w5.heap.size + 1 + 1 := (by omega)); (try have : w3.heap.size < w5.heap.size := (by omega)); (try have : w3.heap.size < w5.heap.size + 1 := (by omega)); (try have : w3.heap.size < w5.heap.size + 1 + 1 := (by omega)); (try have : w3.heap.size + 1 < w5.heap.size := (by omega)); (try have : w3.heap.size + 1 < w5.heap.size + 1 := (by omega)); (try have : w3.heap.size + 1 < w5.heap.size + 1 + 1 := (by omega)); (try have : w3.heap.size + 1 + 1 < w5.heap.size := (by omega)); (try have : w3.heap.size + 1 + 1 < w5.heap.size + 1 := (by omega)); (try have : w3.heap.size + 1 + 1 < w5.heap.size + 1 + 1 := (by omega)); (try have : w4.heap.size < w5.heap.size := (by omega)); (try have : w4.heap.size < w5.heap.size + 1 := (by omega)); (try have : w4.heap.size < w5.heap.size + 1 + 1 := (by omega)); (try have : w4.heap.size + 1 < w5.heap.size := (by omega)); (try have : w4.heap.size + 1 < w5.heap.size + 1 := (by omega)); (try have : w4.heap.size + 1 < w5.heap.size + 1 + 1 := (by omega)); (try have : w4.heap.size + 1 + 1 < w5.heap.size := (by omega)); (try have : w4.heap.size + 1 + 1 < w5.heap.size + 1 := (by omega)); (try have : w4.heap.size + 1 + 1 < w5.heap.size + 1 + 1 := (by omega))
                        go_wp2
                        go_ret
                        exact ⟨by rw [Hc.out]; rfl, by repeat (first | exact Below.refl _ _ | refine below_dN ?_ _ | refine Below.drew ?_ | refine Below.alloc ?_ (by first | omega | (simp; done) | (simp; omega)) _ | refine Below.setCell ?_ (by first | omega | (simp; done) | (simp; omega)) _ | refine below_step (by assumption) (by first | omega | (simp; done) | (simp; omega)) ?_)⟩
                    · obtain rfl : k = t.ops.length := by omega
                      have Hc := Lib.hid (Hz.out Hout.out Hmal.out HB.out)
                      go_wp2
                      go_ret
                      exact ⟨by rw [Hc.out]; rfl, by repeat (first | exact Below.refl _ _ | refine below_dN ?_ _ | refine Below.drew ?_ | refine Below.alloc ?_ (by first | omega | (simp; done) | (simp; omega)) _ | refine Below.setCell ?_ (by first | omega | (simp; done) | (simp; omega)) _ | refine below_step (by assumption) (by first | omega | (simp; done) | (simp; omega)) ?_)⟩
end

section
open Go.RowKit
set_option linter.unusedVariables false

theorem erV_0 : erV 0 = .nilIface := rfl
theorem assert_errno (v : Value) (w : World) : (Instr.typeAssert (.iface 72 v) 31 72 true).run Tryz.prog w = .ok (.tuple #[v, .bool true]) w := by kernel_rfl

end

section
open Go.RowKit
set_option linter.unusedVariables false

/-- What the first j effects that fire in s make of s. -/
def apE (s : List Int) (es : List Eff) : Nat → List Int
  | 0 => s
  | j + 1 => if hoB (eff es j).whn s then (apE s es j).set (eff es j).var.toNat (eff es j).val else apE s es j
theorem apE_len (s : List Int) (es : List Eff) (j : Nat) : (apE s es j).length = s.length := by
  induction j with
  | zero => rfl
  | succ j ih => unfold apE; split <;> simp [ih]
def apC (t : Tsk) (s : List Int) (op : Int) : Int :=
  if op < 0 then 1 else if (t.ops.length : Int) ≤ op then 1 else if stB t.vars s then (if hoB (opr t.ops op.toNat).pre s then 0 else 12) else 2
theorem ic_set (l : List Int) (k : Nat) (x : Int) : (ic l).set k (.int .i64 x) = ic (l.set k x) := by unfold ic; rw [List.map_set]
theorem mal_var {t : Tsk} (h : malT t = false) {k j : Nat} (hk : k < t.ops.length) (hj : j < (opr t.ops k).effs.length) : 0 ≤ (eff (opr t.ops k).effs j).var ∧ (eff (opr t.ops k).effs j).var < t.vars.length := by
  unfold malT at h
  simp only [Bool.or_eq_false_iff, anyB_false] at h
  have h1 := h.2 k hk
  unfold malO at h1
  simp only [Bool.or_eq_false_iff, anyB_false] at h1
  have h2 := h1.2 j hj
  unfold malE at h2
  simp only [Bool.or_eq_false_iff, Bool.not_eq_false'] at h2
  have h3 := h2.2
  unfold faB at h3
  simp only [decide_eq_true_eq] at h3
  have h4 := h3 0 (by simp)
  exact ⟨h4.1, h4.2.1⟩

theorem lg_vars {t : Tsk} (h : lgT t = false) : t.vars.length ≤ 64 := by
  unfold lgT at h
  simp only [Bool.or_eq_false_iff, anyB_false] at h
  have := h.1.1.1; simp at this; omega
theorem stB_len {vars s : List Int} (h : stB vars s = true) : s.length = vars.length := by
  unfold stB at h; simp only [decide_eq_true_eq] at h; exact h.1
theorem own_keep {wr w1 : World} {B : Nat} {e : TypeId} {v : Value} {n : Nat} {xs : List Value} (h : wr.ownsRow B e 1 v n xs) (hb : Below wr.heap.size wr w1) : w1.ownsRow B e 1 v n xs :=
  h.kept (row := none) ⟨hb.os, hb.tape, hb.output, hb.size, fun k hk _ => hb.block k hk⟩ (by cases v.ownBlock <;> simp)

theorem own_mono {w : World} {B B' : Nat} {e : TypeId} {v : Value} {n : Nat} {xs : List Value} (h : w.ownsRow B e 1 v n xs) (hb : B' ≤ B) : w.ownsRow B' e 1 v n xs :=
  ⟨h.1, h.2.imp id fun ⟨g, cap, cur, h1, h2, h3⟩ => ⟨g, cap, cur, h1, Nat.le_trans hb h2, h3⟩⟩
theorem own_form {w : World} {B : Nat} {e : TypeId} {v : Value} {n : Nat} {xs : List Value} (h : w.ownsRow B e 1 v n xs) (hn : 0 < n) : ∃ g cap, v = .slice (some ⟨g, 0, none⟩) n cap ∧ B ≤ g ∧ g < w.heap.size := by
  rcases h.2 with ⟨_, h0⟩ | ⟨g, cap, cur, hv, hb, hg, _⟩
  · omega
  · exact ⟨g, cap, hv, hb, (Array.getElem?_eq_some_iff.1 hg).1⟩

set_option maxRecDepth 4000 in
set_option maxHeartbeats 2000000 in
theorem apply_any (t : Tsk) (p : Lies) (s : List Int) (A : Option Addr) (c : Nat) (op : Int) (w : World) (ht : TaskAt w w.heap.size t p) (hs : IntsAt w w.heap.size A s) (hlg : lgT t = false) (hmal : malT t = false) :
    Calls Tryz.prog 41 #[TaskV t p, .slice A s.length c, .int .i64 op] w fun e w' =>
      (∃ v, e = .returned (.tuple #[v, erV (apC t s op)]) ∧ (apC t s op = 0 → w'.ownsRow w.heap.size 3 1 v s.length (ic (apE s (opr t.ops op.toNat).effs (opr t.ops op.toNat).effs.length))) ∧ (apC t s op ≠ 0 → v = .slice none 0 0)) ∧ Below w.heap.size w w' := by
  obtain ⟨av, ai, ag, ao, cv, ci, cg, co⟩ := p
  unfold TaskV at *
  dsimp only at *
  have l4 := ht.ops.len
  have ls := hs.len
  have Hlg := Lib.hid (lg_sizes hlg)
  have Hmal := Lib.hid hmal
  have Hlv := Lib.hid (lg_vars hlg)
  clear hlg hmal
  have k1 := fun w1 (hb : Below w.heap.size w w1) => proper_any t.vars s av A cv c w1 (ht.vars.up hb) (hs.up hb)
  cases e1 : decide (op < 0)
  case true =>
    have Hc := Lib.hid (show apC t s op = 1 by unfold apC; rw [if_pos (by simpa using e1)])
    go_enter Tryz.func41, Tryz.ntmps41
    go_wp2
    refine bodyPost_ret (v := .tuple #[.slice none 0 0, .iface 72 (.int .i64 1)]) (by simp [results, Tryz.results41, go_sem]) rfl ⟨⟨_, by rw [Hc.out]; rfl, fun h => absurd h (by rw [Hc.out]; decide), fun _ => rfl⟩, by repeat (first | exact Below.refl _ _ | refine below_dN ?_ _ | refine Below.drew ?_ | refine Below.alloc ?_ (by first | omega | (simp; done) | (simp; omega)) _ | refine Below.setCell ?_ (by first | omega | (simp; done) | (simp; omega)) _ | refine below_step (by assumption) (by first | omega | (simp; done) | (simp; omega)) ?_)⟩
  cases e2 : decide ((t.ops.length : Int) ≤ op)
  case true =>
    have Hc := Lib.hid (show apC t s op = 1 by unfold apC; rw [if_neg (by simpa using e1), if_pos (by simpa using e2)])
    go_enter Tryz.func41, Tryz.ntmps41
    go_wp2
    refine bodyPost_ret (v := .tuple #[.slice none 0 0, .iface 72 (.int .i64 1)]) (by simp [results, Tryz.results41, go_sem]) rfl ⟨⟨_, by rw [Hc.out]; rfl, fun h => absurd h (by rw [Hc.out]; decide), fun _ => rfl⟩, by repeat (first | exact Below.refl _ _ | refine below_dN ?_ _ | refine Below.drew ?_ | refine Below.alloc ?_ (by first | omega | (simp; done) | (simp; omega)) _ | refine Below.setCell ?_ (by first | omega | (simp; done) | (simp; omega)) _ | refine below_step (by assumption) (by first | omega | (simp; done) | (simp; omega)) ?_)⟩
  obtain ⟨k, rfl⟩ : ∃ k : Nat, op = (k : Int) := ⟨op.toNat, by simp at e1; omega⟩
  have hlt : k < t.ops.length := by simp at e2; omega
  have hC : apC t s k = if stB t.vars s then (if hoB (opr t.ops k).pre s then 0 else 12) else 2 := by
    unfold apC; rw [if_neg (by simp), if_neg (by simpa using e2)]; rfl
  have HC := Lib.hid hC
  clear hC e1
  cases e3 : stB t.vars s
  case false =>
    have Hc := Lib.hid (show apC t s k = 2 by rw [HC.out, e3]; rfl)
    go_enter Tryz.func41, Tryz.ntmps41
    go_wp2_with fail; refine (k1 _ (by repeat (first | exact Below.refl _ _ | refine below_dN ?_ _ | refine Below.drew ?_ | refine Below.alloc ?_ (by first | omega | (simp; done) | (simp; omega)) _ | refine Below.setCell ?_ (by first | omega | (simp; done) | (simp; omega)) _ | refine below_step (by assumption) (by first | omega | (simp; done) | (simp; omega)) ?_))).mono ?_; rintro e w1 ⟨rfl, hb1⟩; obtain ⟨hc1, hf1, hz1, hlt1, hle1⟩ := cellsIf hb1 (by (try simp); exact rfl); (try have : w.heap.size < w1.heap.size := (by omega)); (try have : w.heap.size < w1.heap.size + 1 := (by omega)); (try have : w.heap.size < w1.heap.size + 1 + 1 := (by omega)); (try have : w.heap.size + 1 < w1.heap.size := (by omega)); (try have : w.heap.size + 1 < w1.heap.size + 1 := (by omega)); (try have : w.heap.size + 1 < w1.heap.size + 1 + 1 := (by omega)); (try have : w.heap.size + 1 + 1 < w1.heap.size := (by omega)); (try have : w.heap.size + 1 + 1 < w1.heap.size + 1 := (by omega)); (try have : w.heap.size + 1 + 1 < w1.heap.size + 1 + 1 := (by omega))
    go_wp2
    refine bodyPost_ret (v := .tuple #[.slice none 0 0, .iface 72 (.int .i64 2)]) (by simp [results, Tryz.results41, go_sem]) rfl ⟨⟨_, by rw [Hc.out]; rfl, fun h => absurd h (by rw [Hc.out]; decide), fun _ => rfl⟩, by repeat (first | exact Below.refl _ _ | refine below_dN ?_ _ | refine Below.drew ?_ | refine Below.alloc ?_ (by first | omega | (simp; done) | (simp; omega)) _ | refine Below.setCell ?_ (by first | omega | (simp; done) | (simp; omega)) _ | refine below_step (by assumption) (by first | omega | (simp; done) | (simp; omega)) ?_)⟩
  obtain ⟨b, o, S, d, T, d2, ea, hb, q0, qs, q1, q2, f2, q3, e5⟩ := ht.ops.at2 (Below.refl _ w) hlt
  dsimp only at ea
  subst ea
  have g2 : b < w.heap.size := hb
  have j1 := f2.len
  have j2 := e5.len
  have k2 := fun w1 (hb : Below w.heap.size w w1) => holds_any (opr t.ops k).pre s S A d c w1 (f2.up hb) (hs.up hb)
  cases e4 : hoB (opr t.ops k).pre s
  case false =>
    have Hc := Lib.hid (show apC t s k = 12 by rw [HC.out, e3, e4]; rfl)
    go_enter Tryz.func41, Tryz.ntmps41
    go_wp2_with fail; refine (k1 _ (by repeat (first | exact Below.refl _ _ | refine below_dN ?_ _ | refine Below.drew ?_ | refine Below.alloc ?_ (by first | omega | (simp; done) | (simp; omega)) _ | refine Below.setCell ?_ (by first | omega | (simp; done) | (simp; omega)) _ | refine below_step (by assumption) (by first | omega | (simp; done) | (simp; omega)) ?_))).mono ?_; rintro e w1 ⟨rfl, hb1⟩; obtain ⟨hc1, hf1, hz1, hlt1, hle1⟩ := cellsIf hb1 (by (try simp); exact rfl); (try have : w.heap.size < w1.heap.size := (by omega)); (try have : w.heap.size < w1.heap.size + 1 := (by omega)); (try have : w.heap.size < w1.heap.size + 1 + 1 := (by omega)); (try have : w.heap.size + 1 < w1.heap.size := (by omega)); (try have : w.heap.size + 1 < w1.heap.size + 1 := (by omega)); (try have : w.heap.size + 1 < w1.heap.size + 1 + 1 := (by omega)); (try have : w.heap.size + 1 + 1 < w1.heap.size := (by omega)); (try have : w.heap.size + 1 + 1 < w1.heap.size + 1 := (by omega)); (try have : w.heap.size + 1 + 1 < w1.heap.size + 1 + 1 := (by omega))
    go_wp2_with fail; refine (k2 _ (by repeat (first | exact Below.refl _ _ | refine below_dN ?_ _ | refine Below.drew ?_ | refine Below.alloc ?_ (by first | omega | (simp; done) | (simp; omega)) _ | refine Below.setCell ?_ (by first | omega | (simp; done) | (simp; omega)) _ | refine below_step (by assumption) (by first | omega | (simp; done) | (simp; omega)) ?_))).mono ?_; rintro e w2 ⟨rfl, hb2⟩; obtain ⟨hc2, hf2, hz2, hlt2, hle2⟩ := cellsIf hb2 (by (try simp); exact rfl); (try have : w.heap.size < w2.heap.size := (by omega)); (try have : w.heap.size < w2.heap.size + 1 := (by omega)); (try have : w.heap.size < w2.heap.size + 1 + 1 := (by omega)); (try have : w.heap.size + 1 < w2.heap.size := (by omega)); (try have : w.heap.size + 1 < w2.heap.size + 1 := (by omega)); (try have : w.heap.size + 1 < w2.heap.size + 1 + 1 := (by omega)); (try have : w.heap.size + 1 + 1 < w2.heap.size := (by omega)); (try have : w.heap.size + 1 + 1 < w2.heap.size + 1 := (by omega)); (try have : w.heap.size + 1 + 1 < w2.heap.size + 1 + 1 := (by omega)); (try have : w1.heap.size < w2.heap.size := (by omega)); (try have : w1.heap.size < w2.heap.size + 1 := (by omega)); (try have : w1.heap.size < w2.heap.size + 1 + 1 := (by omega)); (try have : w1.heap.size + 1 < w2.heap.size := (by omega)); (try have : w1.heap.size + 1 < w2.heap.size + 1 := (by omega)); (try have : w1.heap.size + 1 < w2.heap.size + 1 + 1 := (by omega)); (try have : w1.heap.size + 1 + 1 < w2.heap.size := (by omega)); (try have : w1.heap.size + 1 + 1 < w2.heap.size + 1 := (by omega)); (try have : w1.heap.size + 1 + 1 < w2.heap.size + 1 + 1 := (by omega))
    go_wp2
    refine bodyPost_ret (v := .tuple #[.slice none 0 0, .iface 72 (.int .i64 12)]) (by simp [results, Tryz.results41, go_sem]) rfl ⟨⟨_, by rw [Hc.out]; rfl, fun h => absurd h (by rw [Hc.out]; decide), fun _ => rfl⟩, by repeat (first | exact Below.refl _ _ | refine below_dN ?_ _ | refine Below.drew ?_ | refine Below.alloc ?_ (by first | omega | (simp; done) | (simp; omega)) _ | refine Below.setCell ?_ (by first | omega | (simp; done) | (simp; omega)) _ | refine below_step (by assumption) (by first | omega | (simp; done) | (simp; omega)) ?_)⟩
  have Hc := Lib.hid (show apC t s k = 0 by rw [HC.out, e3, e4]; rfl)
  have Hsl := Lib.hid (stB_len e3)
  have k4 := fun w1 (hb : Below w.heap.size w w1) => clone_any s A c w1 (hs.up hb) (by have := Hsl.out; have := Hlv.out; omega)
  go_enter Tryz.func41, Tryz.ntmps41
  go_wp2_with fail; refine (k1 _ (by repeat (first | exact Below.refl _ _ | refine below_dN ?_ _ | refine Below.drew ?_ | refine Below.alloc ?_ (by first | omega | (simp; done) | (simp; omega)) _ | refine Below.setCell ?_ (by first | omega | (simp; done) | (simp; omega)) _ | refine below_step (by assumption) (by first | omega | (simp; done) | (simp; omega)) ?_))).mono ?_; rintro e w1 ⟨rfl, hb1⟩; obtain ⟨hc1, hf1, hz1, hlt1, hle1⟩ := cellsIf hb1 (by (try simp); exact rfl); (try have : w.heap.size < w1.heap.size := (by omega)); (try have : w.heap.size < w1.heap.size + 1 := (by omega)); (try have : w.heap.size < w1.heap.size + 1 + 1 := (by omega)); (try have : w.heap.size + 1 < w1.heap.size := (by omega)); (try have : w.heap.size + 1 < w1.heap.size + 1 := (by omega)); (try have : w.heap.size + 1 < w1.heap.size + 1 + 1 := (by omega)); (try have : w.heap.size + 1 + 1 < w1.heap.size := (by omega)); (try have : w.heap.size + 1 + 1 < w1.heap.size + 1 := (by omega)); (try have : w.heap.size + 1 + 1 < w1.heap.size + 1 + 1 := (by omega))
  go_wp2_with fail; refine (k2 _ (by repeat (first | exact Below.refl _ _ | refine below_dN ?_ _ | refine Below.drew ?_ | refine Below.alloc ?_ (by first | omega | (simp; done) | (simp; omega)) _ | refine Below.setCell ?_ (by first | omega | (simp; done) | (simp; omega)) _ | refine below_step (by assumption) (by first | omega | (simp; done) | (simp; omega)) ?_))).mono ?_; rintro e w2 ⟨rfl, hb2⟩; obtain ⟨hc2, hf2, hz2, hlt2, hle2⟩ := cellsIf hb2 (by (try simp); exact rfl); (try have : w.heap.size < w2.heap.size := (by omega)); (try have : w.heap.size < w2.heap.size + 1 := (by omega)); (try have : w.heap.size < w2.heap.size + 1 + 1 := (by omega)); (try have : w.heap.size + 1 < w2.heap.size := (by omega)); (try have : w.heap.size + 1 < w2.heap.size + 1 := (by omega)); (try have : w.heap.size + 1 < w2.heap.size + 1 + 1 := (by omega)); (try have : w.heap.size + 1 + 1 < w2.heap.size := (by omega)); (try have : w.heap.size + 1 + 1 < w2.heap.size + 1 := (by omega)); (try have : w.heap.size + 1 + 1 < w2.heap.size + 1 + 1 := (by omega)); (try have : w1.heap.size < w2.heap.size := (by omega)); (try have : w1.heap.size < w2.heap.size + 1 := (by omega)); (try have : w1.heap.size < w2.heap.size + 1 + 1 := (by omega)); (try have : w1.heap.size + 1 < w2.heap.size := (by omega)); (try have : w1.heap.size + 1 < w2.heap.size + 1 := (by omega)); (try have : w1.heap.size + 1 < w2.heap.size + 1 + 1 := (by omega)); (try have : w1.heap.size + 1 + 1 < w2.heap.size := (by omega)); (try have : w1.heap.size + 1 + 1 < w2.heap.size + 1 := (by omega)); (try have : w1.heap.size + 1 + 1 < w2.heap.size + 1 + 1 := (by omega))
  go_wp2_with fail
  refine (k4 _ (by repeat (first | exact Below.refl _ _ | refine below_dN ?_ _ | refine Below.drew ?_ | refine Below.alloc ?_ (by first | omega | (simp; done) | (simp; omega)) _ | refine Below.setCell ?_ (by first | omega | (simp; done) | (simp; omega)) _ | refine below_step (by assumption) (by first | omega | (simp; done) | (simp; omega)) ?_))).mono ?_
  rintro e w3 ⟨⟨v, rfl, hown⟩, hb3⟩
  obtain ⟨hc3, hf3, hz3, hlt3, hle3⟩ := cellsIf hb3 (by (try simp); exact rfl)
  have hbw3 : Below w.heap.size w w3 := by repeat (first | exact Below.refl _ _ | refine below_dN ?_ _ | refine Below.drew ?_ | refine Below.alloc ?_ (by first | omega | (simp; done) | (simp; omega)) _ | refine Below.setCell ?_ (by first | omega | (simp; done) | (simp; omega)) _ | refine below_step (by assumption) (by first | omega | (simp; done) | (simp; omega)) ?_)
  have hown1 := own_mono hown (B' := w.heap.size) (by omega)
  clear hown
  go_wp2
  go_loopw [49] (fun i wr => ∃ j : Nat, j ≤ (opr t.ops k).effs.length ∧ i = .int .i64 j ∧ wr.ownsRow w.heap.size 3 1 v s.length (ic (apE s (opr t.ops k).effs j)) ∧ Below w.heap.size w wr) (fun i _ => (opr t.ops k).effs.length - (intOf i).toNat)
  case atStart => exact ⟨0, by omega, rfl, hown1, hbw3⟩
  case round =>
    clear hc1 hc2 hc3 hf1 hf2 hf3 hlt1 hlt2 hlt3 hle1 hle2 hle3 hb1 hb2 hb3 hown1 hbw3
    obtain ⟨j, hj, rfl, hown, hbel2⟩ := hrel
    by_cases hlt2 : j < (opr t.ops k).effs.length
    · obtain ⟨b', o', S', c', ea', hb', i0, f5, i1, i2⟩ := e5.at2 hbel2 hlt2
      subst ea'
      have hbz2 := hbel2.size
      have g3 : b' < wr.heap.size := by omega
      have j3 := f5.len
      have hv := mal_var Hmal.out hlt hlt2
      have hsl := Hsl.out
      have v0 := hv.1
      have v1 : (eff (opr t.ops k).effs j).var < s.length := by omega
      clear hsl hv
      obtain ⟨g, cap, rfl, hg1, hg2⟩ := own_form hown (by omega)
      have k5 := fun w1 (hb : Below w.heap.size w w1) => holds_any (eff (opr t.ops k).effs j).whn s S' A c' c w1 (f5.up hb) (hs.up hb)
      cases e6 : hoB (eff (opr t.ops k).effs j).whn s
      · have He := Lib.hid (show apE s (opr t.ops k).effs (j + 1) = apE s (opr t.ops k).effs j by conv => lhs; unfold apE; rw [if_neg (by rw [e6]; simp)])
        go_wp2_with fail; refine (k5 _ (by repeat (first | exact Below.refl _ _ | refine below_dN ?_ _ | refine Below.drew ?_ | refine Below.alloc ?_ (by first | omega | (simp; done) | (simp; omega)) _ | refine Below.setCell ?_ (by first | omega | (simp; done) | (simp; omega)) _ | refine below_step (by assumption) (by first | omega | (simp; done) | (simp; omega)) ?_))).mono ?_; rintro e w4 ⟨rfl, hb4⟩; obtain ⟨hc4, hf4, hz4, hlt4, hle4⟩ := cellsIf hb4 (by (try simp); exact rfl); (try have : w.heap.size < w4.heap.size := (by omega)); (try have : w.heap.size < w4.heap.size + 1 := (by omega)); (try have : w.heap.size < w4.heap.size + 1 + 1 := (by omega)); (try have : w.heap.size + 1 < w4.heap.size := (by omega)); (try have : w.heap.size + 1 < w4.heap.size + 1 := (by omega)); (try have : w.heap.size + 1 < w4.heap.size + 1 + 1 := (by omega)); (try have : w.heap.size + 1 + 1 < w4.heap.size := (by omega)); (try have : w.heap.size + 1 + 1 < w4.heap.size + 1 := (by omega)); (try have : w.heap.size + 1 + 1 < w4.heap.size + 1 + 1 := (by omega)); (try have : w1.heap.size < w4.heap.size := (by omega)); (try have : w1.heap.size < w4.heap.size + 1 := (by omega)); (try have : w1.heap.size < w4.heap.size + 1 + 1 := (by omega)); (try have : w1.heap.size + 1 < w4.heap.size := (by omega)); (try have : w1.heap.size + 1 < w4.heap.size + 1 := (by omega)); (try have : w1.heap.size + 1 < w4.heap.size + 1 + 1 := (by omega)); (try have : w1.heap.size + 1 + 1 < w4.heap.size := (by omega)); (try have : w1.heap.size + 1 + 1 < w4.heap.size + 1 := (by omega)); (try have : w1.heap.size + 1 + 1 < w4.heap.size + 1 + 1 := (by omega)); (try have : w2.heap.size < w4.heap.size := (by omega)); (try have : w2.heap.size < w4.heap.size + 1 := (by omega)); (try have : w2.heap.size < w4.heap.size + 1 + 1 := (by omega)); (try have : w2.heap.size + 1 < w4.heap.size := (by omega)); (try have : w2.heap.size + 1 < w4.heap.size + 1 := (by omega)); (try have : w2.heap.size + 1 < w4.heap.size + 1 + 1 := (by omega)); (try have : w2.heap.size + 1 + 1 < w4.heap.size := (by omega)); (try have : w2.heap.size + 1 + 1 < w4.heap.size + 1 := (by omega)); (try have : w2.heap.size + 1 + 1 < w4.heap.size + 1 + 1 := (by omega)); (try have : w3.heap.size < w4.heap.size := (by omega)); (try have : w3.heap.size < w4.heap.size + 1 := (by omega)); (try have : w3.heap.size < w4.heap.size + 1 + 1 := (by omega)); (try have : w3.heap.size + 1 < w4.heap.size := (by omega)); (try have : w3.heap.size + 1 < w4.heap.size + 1 := (by omega)); (try have : w3.heap.size + 1 < w4.heap.size + 1 + 1 := (by omega)); (try have : w3.heap.size + 1 + 1 < w4.heap.size := (by omega)); (try have : w3.heap.size + 1 + 1 < w4.heap.size + 1 := (by omega)); (try have : w3.heap.size + 1 + 1 < w4.heap.size + 1 + 1 := (by omega))
        go_wp2
        go_roundw
        case rel => exact ⟨j + 1, by omega, by go_num, (by rw [He.out]; exact own_keep (own_keep hown (Below.alloc (Below.refl _ _) (Nat.le_refl _) _)) hb4), by repeat (first | exact Below.refl _ _ | refine below_dN ?_ _ | refine Below.drew ?_ | refine Below.alloc ?_ (by first | omega | (simp; done) | (simp; omega)) _ | refine Below.setCell ?_ (by first | omega | (simp; done) | (simp; omega)) _ | refine below_step (by assumption) (by first | omega | (simp; done) | (simp; omega)) ?_)⟩
        case measure => simp [intOf]; omega
      · have He := Lib.hid (show apE s (opr t.ops k).effs (j + 1) = (apE s (opr t.ops k).effs j).set (eff (opr t.ops k).effs j).var.toNat (eff (opr t.ops k).effs j).val by conv => lhs; unfold apE; rw [if_pos e6])
        go_wp2_with fail; refine (k5 _ (by repeat (first | exact Below.refl _ _ | refine below_dN ?_ _ | refine Below.drew ?_ | refine Below.alloc ?_ (by first | omega | (simp; done) | (simp; omega)) _ | refine Below.setCell ?_ (by first | omega | (simp; done) | (simp; omega)) _ | refine below_step (by assumption) (by first | omega | (simp; done) | (simp; omega)) ?_))).mono ?_; rintro e w4 ⟨rfl, hb4⟩; obtain ⟨hc4, hf4, hz4, hlt4, hle4⟩ := cellsIf hb4 (by (try simp); exact rfl); (try have : w.heap.size < w4.heap.size := (by omega)); (try have : w.heap.size < w4.heap.size + 1 := (by omega)); (try have : w.heap.size < w4.heap.size + 1 + 1 := (by omega)); (try have : w.heap.size + 1 < w4.heap.size := (by omega)); (try have : w.heap.size + 1 < w4.heap.size + 1 := (by omega)); (try have : w.heap.size + 1 < w4.heap.size + 1 + 1 := (by omega)); (try have : w.heap.size + 1 + 1 < w4.heap.size := (by omega)); (try have : w.heap.size + 1 + 1 < w4.heap.size + 1 := (by omega)); (try have : w.heap.size + 1 + 1 < w4.heap.size + 1 + 1 := (by omega)); (try have : w1.heap.size < w4.heap.size := (by omega)); (try have : w1.heap.size < w4.heap.size + 1 := (by omega)); (try have : w1.heap.size < w4.heap.size + 1 + 1 := (by omega)); (try have : w1.heap.size + 1 < w4.heap.size := (by omega)); (try have : w1.heap.size + 1 < w4.heap.size + 1 := (by omega)); (try have : w1.heap.size + 1 < w4.heap.size + 1 + 1 := (by omega)); (try have : w1.heap.size + 1 + 1 < w4.heap.size := (by omega)); (try have : w1.heap.size + 1 + 1 < w4.heap.size + 1 := (by omega)); (try have : w1.heap.size + 1 + 1 < w4.heap.size + 1 + 1 := (by omega)); (try have : w2.heap.size < w4.heap.size := (by omega)); (try have : w2.heap.size < w4.heap.size + 1 := (by omega)); (try have : w2.heap.size < w4.heap.size + 1 + 1 := (by omega)); (try have : w2.heap.size + 1 < w4.heap.size := (by omega)); (try have : w2.heap.size + 1 < w4.heap.size + 1 := (by omega)); (try have : w2.heap.size + 1 < w4.heap.size + 1 + 1 := (by omega)); (try have : w2.heap.size + 1 + 1 < w4.heap.size := (by omega)); (try have : w2.heap.size + 1 + 1 < w4.heap.size + 1 := (by omega)); (try have : w2.heap.size + 1 + 1 < w4.heap.size + 1 + 1 := (by omega)); (try have : w3.heap.size < w4.heap.size := (by omega)); (try have : w3.heap.size < w4.heap.size + 1 := (by omega)); (try have : w3.heap.size < w4.heap.size + 1 + 1 := (by omega)); (try have : w3.heap.size + 1 < w4.heap.size := (by omega)); (try have : w3.heap.size + 1 < w4.heap.size + 1 := (by omega)); (try have : w3.heap.size + 1 < w4.heap.size + 1 + 1 := (by omega)); (try have : w3.heap.size + 1 + 1 < w4.heap.size := (by omega)); (try have : w3.heap.size + 1 + 1 < w4.heap.size + 1 := (by omega)); (try have : w3.heap.size + 1 + 1 < w4.heap.size + 1 + 1 := (by omega))
        have hown4 := own_keep (own_keep hown (Below.alloc (Below.refl _ _) (Nat.le_refl _) _)) hb4
        have x1 : wr.cell? ⟨g, (eff (opr t.ops k).effs j).var.toNat, none⟩ = some (.int .i64 (nth (apE s (opr t.ops k).effs j) (eff (opr t.ops k).effs j).var.toNat)) := (hown.cellAt _ (by omega)).trans (ic_get (by rw [apE_len]; omega))
        have x2 : wr.frozen? ⟨g, (eff (opr t.ops k).effs j).var.toNat, none⟩ = false := hown.frozenAt _
        go_wp2
        go_roundw
        case rel => exact ⟨j + 1, by omega, by go_num, (by rw [He.out, ← ic_set]; exact (hown4.stored _ _).1), by repeat (first | exact Below.refl _ _ | refine below_dN ?_ _ | refine Below.drew ?_ | refine Below.alloc ?_ (by first | omega | (simp; done) | (simp; omega)) _ | refine Below.setCell ?_ (by first | omega | (simp; done) | (simp; omega)) _ | refine below_step (by assumption) (by first | omega | (simp; done) | (simp; omega)) ?_)⟩
        case measure => simp [intOf]; omega
    · obtain rfl : j = (opr t.ops k).effs.length := by omega
      go_wp2
      refine bodyPost_ret (v := .tuple #[v, .nilIface]) (by simp [results, Tryz.results41, go_sem]) rfl ⟨⟨_, by rw [Hc.out]; rfl, fun _ => hown, fun h => absurd Hc.out h⟩, by repeat (first | exact Below.refl _ _ | refine below_dN ?_ _ | refine Below.drew ?_ | refine Below.alloc ?_ (by first | omega | (simp; done) | (simp; omega)) _ | refine Below.setCell ?_ (by first | omega | (simp; done) | (simp; omega)) _ | refine below_step (by assumption) (by first | omega | (simp; done) | (simp; omega)) ?_)⟩
end

section
open Go.RowKit
set_option linter.unusedVariables false

end

section
open Go.RowKit
set_option linter.unusedVariables false

/-- The cells of a list of numbers at an address. -/
theorem ints_src {w : World} {ad : Addr} {s : List Int} (h : IntsAt w w.heap.size (some ad) s) {w1 : World} (hb : Below w.heap.size w w1) : ∀ (j : Nat) (u : Value), (ic s)[j]? = some u → w1.cell? (ad.add j) = some u := fun j u hj => by
  have hlt : j < s.length := by have := (List.getElem?_eq_some_iff.1 hj).1; simpa [ic] using this
  obtain ⟨b, off, e2, hb2, hc⟩ := h.2 (by omega)
  rw [ic_get hlt] at hj
  cases hj
  cases e2
  have := (hb.cell (p := ⟨b, off + j, none⟩) hb2).trans (hc j hlt)
  simp [Addr.add]
  split
  · rename_i h0; subst h0; simpa using this
  · simpa using this

end

section
open Go.RowKit
set_option linter.unusedVariables false

/-- A slice that holds the numbers l. -/
def GotInts (w : World) (v : Value) (l : List Int) : Prop := ∃ A c, v = .slice A l.length c ∧ (A = none → c = 0) ∧ IntsAt w w.heap.size A l
theorem GotInts.up {w w' : World} {v : Value} {l : List Int} (h : GotInts w v l) (hb : Below w.heap.size w w') : GotInts w' v l := by
  obtain ⟨A, c, rfl, h0, h1⟩ := h
  exact ⟨A, c, rfl, h0, h1.up hb⟩
theorem got_nil (w : World) : GotInts w (.slice none 0 0) [] := ⟨none, 0, rfl, fun _ => rfl, by simp, fun h => absurd h (by simp)⟩
theorem own_got {w : World} {B : Nat} {v : Value} {l : List Int} (h : w.ownsRow B 3 1 v l.length (ic l)) (hl : l.length ≤ 140737488355328) : GotInts w v l := by
  rcases h.2 with ⟨rfl, h0⟩ | ⟨b, cap, cur, rfl, hb, hg, hh⟩
  · have h1 : l = [] := List.length_eq_zero_iff.1 h0
    subst h1
    exact got_nil w
  · refine ⟨_, cap, rfl, fun h => (by cases h), hl, fun _ => ⟨b, 0, rfl, (Array.getElem?_eq_some_iff.1 hg).1, fun k hk => ?_⟩⟩
    have := h.cells (g := b) rfl k _ (ic_get hk)
    simp [Addr.add] at this
    split at this
    · rename_i h0; subst h0; exact this
    · simpa using this

/-- The successor, or nothing. -/
def nxt (t : Tsk) (s : List Int) (k : Nat) : List Int := apE s (opr t.ops k).effs (opr t.ops k).effs.length
theorem nxt_len (t : Tsk) (s : List Int) (k : Nat) : (nxt t s k).length = s.length := apE_len _ _ _

end

section
open Go.RowKit
set_option linter.unusedVariables false

theorem chk0 {t : Tsk} (h : chkC t = 0) : lgT t = false ∧ outT t = false ∧ malT t = false ∧ misT t = false := by
  unfold chkC at h
  cases e1 : lgT t <;> cases e2 : outT t <;> cases e3 : malT t <;> cases e4 : misT t <;> simp_all
/-- The number of Apply's error. -/
def rapC (t : Tsk) (s : List Int) (op : Int) : Int := if chkC t = 0 then apC t s op else chkC t
def rapL (t : Tsk) (s : List Int) (op : Int) : List Int := if rapC t s op = 0 then nxt t s op.toNat else []
/-- What Apply returns. -/
def RapRet (t : Tsk) (s : List Int) (op : Int) (e : Ending) (w' : World) : Prop := ∃ v, e = .returned (.tuple #[v, .int .i64 (rapC t s op)]) ∧ GotInts w' v (rapL t s op)
def TapRet (t : Tsk) (s : List Int) (op : Int) (e : Ending) (w' : World) : Prop := ∃ v, e = .returned (.tuple #[v, erV (rapC t s op)]) ∧ GotInts w' v (rapL t s op)
theorem rap_err {t : Tsk} {s : List Int} {op c : Int} {w' : World} (hc : rapC t s op = c) (h0 : c ≠ 0) : RapRet t s op (.returned (.tuple #[.slice none 0 0, .int .i64 c])) w' :=
  ⟨_, by rw [hc], by unfold rapL; rw [hc, if_neg h0]; exact got_nil w'⟩

set_option maxRecDepth 4000 in
set_option maxHeartbeats 2000000 in
theorem tapply_any (t : Tsk) (p : Lies) (s : List Int) (A : Option Addr) (c : Nat) (op : Int) (w : World) (ht : TaskAt w w.heap.size t p) (hs : IntsAt w w.heap.size A s) :
    Calls Tryz.prog 18 #[TaskV t p, .slice A s.length c, .int .i64 op] w fun e w' => TapRet t s op e w' ∧ Below w.heap.size w w' := by
  have k1 := fun w1 (hb : Below w.heap.size w w1) => tcheck_any t p w1 (ht.up hb)
  have k3 := fun w1 h1 h2 (hb : Below w.heap.size w w1) => apply_any t p s A c op w1 (ht.up hb) (hs.up hb) h1 h2
  obtain ⟨av, ai, ag, ao, cv, ci, cg, co⟩ := p
  unfold TaskV at *
  dsimp only at *
  by_cases e0 : chkC t = 0
  case neg =>
    have Hr := Lib.hid (show rapC t s op = chkC t by unfold rapC; rw [if_neg e0])
    have E0 := Lib.hid e0
    have He := Lib.hid (show erV (chkC t) = .iface 72 (.int .i64 (chkC t)) by unfold erV; rw [if_neg e0])
    simp only [He.out] at k1
    clear e0
    go_enter Tryz.func18, Tryz.ntmps18
    go_wp2_with fail; refine (k1 _ (by repeat (first | exact Below.refl _ _ | refine below_dN ?_ _ | refine Below.drew ?_ | refine Below.alloc ?_ (by first | omega | (simp; done) | (simp; omega)) _ | refine Below.setCell ?_ (by first | omega | (simp; done) | (simp; omega)) _ | refine below_step (by assumption) (by first | omega | (simp; done) | (simp; omega)) ?_))).mono ?_; rintro e w1 ⟨rfl, hb1⟩; obtain ⟨hc1, hf1, hz1, hlt1, hle1⟩ := cellsIf hb1 (by (try simp); exact rfl); (try have : w.heap.size < w1.heap.size := (by omega)); (try have : w.heap.size < w1.heap.size + 1 := (by omega)); (try have : w.heap.size < w1.heap.size + 1 + 1 := (by omega)); (try have : w.heap.size + 1 < w1.heap.size := (by omega)); (try have : w.heap.size + 1 < w1.heap.size + 1 := (by omega)); (try have : w.heap.size + 1 < w1.heap.size + 1 + 1 := (by omega)); (try have : w.heap.size + 1 + 1 < w1.heap.size := (by omega)); (try have : w.heap.size + 1 + 1 < w1.heap.size + 1 := (by omega)); (try have : w.heap.size + 1 + 1 < w1.heap.size + 1 + 1 := (by omega))
    go_wp2
    refine bodyPost_ret (v := .tuple #[.slice none 0 0, .iface 72 (.int .i64 (chkC t))]) (by simp [results, Tryz.results18, go_sem]) rfl ⟨⟨_, by rw [Hr.out, He.out], by unfold rapL; rw [Hr.out, if_neg E0.out]; exact got_nil _⟩, by repeat (first | exact Below.refl _ _ | refine below_dN ?_ _ | refine Below.drew ?_ | refine Below.alloc ?_ (by first | omega | (simp; done) | (simp; omega)) _ | refine Below.setCell ?_ (by first | omega | (simp; done) | (simp; omega)) _ | refine below_step (by assumption) (by first | omega | (simp; done) | (simp; omega)) ?_)⟩
  have Hk := Lib.hid (chk0 e0)
  have Hr := Lib.hid (show rapC t s op = apC t s op by unfold rapC; rw [if_pos e0])
  simp only [e0, erV_0] at k1
  have Hs := Lib.hid (stB_len (vars := t.vars) (s := s))
  have Hl := Lib.hid hs.len
  clear e0
  go_enter Tryz.func18, Tryz.ntmps18
  go_wp2_with fail; refine (k1 _ (by repeat (first | exact Below.refl _ _ | refine below_dN ?_ _ | refine Below.drew ?_ | refine Below.alloc ?_ (by first | omega | (simp; done) | (simp; omega)) _ | refine Below.setCell ?_ (by first | omega | (simp; done) | (simp; omega)) _ | refine below_step (by assumption) (by first | omega | (simp; done) | (simp; omega)) ?_))).mono ?_; rintro e w1 ⟨rfl, hb1⟩; obtain ⟨hc1, hf1, hz1, hlt1, hle1⟩ := cellsIf hb1 (by (try simp); exact rfl); (try have : w.heap.size < w1.heap.size := (by omega)); (try have : w.heap.size < w1.heap.size + 1 := (by omega)); (try have : w.heap.size < w1.heap.size + 1 + 1 := (by omega)); (try have : w.heap.size + 1 < w1.heap.size := (by omega)); (try have : w.heap.size + 1 < w1.heap.size + 1 := (by omega)); (try have : w.heap.size + 1 < w1.heap.size + 1 + 1 := (by omega)); (try have : w.heap.size + 1 + 1 < w1.heap.size := (by omega)); (try have : w.heap.size + 1 + 1 < w1.heap.size + 1 := (by omega)); (try have : w.heap.size + 1 + 1 < w1.heap.size + 1 + 1 := (by omega))
  go_wp2_with fail
  refine (k3 _ Hk.out.1 Hk.out.2.2.1 (by repeat (first | exact Below.refl _ _ | refine below_dN ?_ _ | refine Below.drew ?_ | refine Below.alloc ?_ (by first | omega | (simp; done) | (simp; omega)) _ | refine Below.setCell ?_ (by first | omega | (simp; done) | (simp; omega)) _ | refine below_step (by assumption) (by first | omega | (simp; done) | (simp; omega)) ?_))).mono ?_
  rintro e w2 ⟨⟨v, rfl, hg, hn⟩, hb2⟩
  have Hg := Lib.hid hg
  have Hn := Lib.hid hn
  clear hg hn
  have hbw : Below w.heap.size w w2 := by repeat (first | exact Below.refl _ _ | refine below_dN ?_ _ | refine Below.drew ?_ | refine Below.alloc ?_ (by first | omega | (simp; done) | (simp; omega)) _ | refine Below.setCell ?_ (by first | omega | (simp; done) | (simp; omega)) _ | refine below_step (by assumption) (by first | omega | (simp; done) | (simp; omega)) ?_)
  go_wp2
  refine bodyPost_ret (v := .tuple #[v, erV (apC t s op)]) (by simp [results, Tryz.results18, go_sem]) rfl ⟨⟨v, by rw [Hr.out], ?_⟩, hbw⟩
  unfold rapL
  rw [Hr.out]
  by_cases h : apC t s op = 0
  · rw [if_pos h]
    exact own_got (by rw [nxt_len]; exact Hg.out h) (by rw [nxt_len]; exact Hl.out)
  · rw [if_neg h, Hn.out h]
    exact got_nil _
end

section
open Go.RowKit
set_option linter.unusedVariables false

theorem nth_ext {a b : List Int} (hl : a.length = b.length) (h : ∀ k, k < a.length → nth a k = nth b k) : a = b := by
  apply List.ext_getElem hl
  intro k h1 h2
  have := h k h1
  unfold nth at this
  simpa [List.getD, List.getElem?_eq_getElem h1, List.getElem?_eq_getElem h2] using this

set_option maxHeartbeats 1000000 in
theorem bints_any (a b : List Int) (A1 A2 : Option Addr) (c1 c2 : Nat) (w : World) (h1 : IntsAt w w.heap.size A1 a) (h2 : IntsAt w w.heap.size A2 b) :
    Calls Tryz.prog 15 #[.slice A1 a.length c1, .slice A2 b.length c2] w fun e w' => e = .returned (.bool (decide (a = b))) ∧ Below w.heap.size w w' := by
  have l1 := h1.len
  have l2 := h2.len
  by_cases hl : a.length = b.length
  · have hd : ((a.length : Int) != (b.length : Int)) = false := by simp [hl]
    have Hl := Lib.hid hl
    clear hl
    go_enter Tryz.func15, Tryz.ntmps15
    go_wp2
    go_loopw [13] (fun i wr => ∃ k : Nat, k ≤ a.length ∧ i = .int .i64 k ∧ (∀ j, j < k → nth a j = nth b j) ∧ Below w.heap.size w wr) (fun i _ => a.length - (intOf i).toNat)
    case atStart => exact ⟨0, by omega, rfl, fun j hj => absurd hj (by omega), Below.refl _ _⟩
    case round =>
      obtain ⟨k, hk, rfl, hok, hbel⟩ := hrel
      have Hok := Lib.hid hok
      clear hok
      by_cases hlt : k < a.length
      · have hlt2 : k < b.length := by have := Hl.out; omega
        obtain ⟨b1, o1, rfl, hb1, hc1⟩ := h1.at_ hlt
        obtain ⟨b2, o2, rfl, hb2, hc2⟩ := h2.at_ hlt2
        have d1 := (hbel.cell (p := ⟨b1, o1 + k, none⟩) hb1).trans (hc1 k hlt)
        have d2 := (hbel.cell (p := ⟨b2, o2 + k, none⟩) hb2).trans (hc2 k hlt2)
        have g1 : (k : Int) < a.length := by omega
        have g2 : (k : Int) < b.length := by omega
        clear hc1 hc2
        by_cases q0 : nth a k = nth b k
        · have e0 : (nth a k != nth b k) = false := by simpa using q0
          have Q0 := Lib.hid q0
          clear q0
          go_wp2_with fail
          go_quiet (fail)
          go_wp2
          go_roundw
          case rel => exact ⟨k + 1, by omega, by go_num, fun j hj => by rcases Nat.lt_succ_iff_lt_or_eq.1 hj with h | rfl; exact Hok.out j h; exact Q0.out, by repeat (first | exact Below.refl _ _ | refine below_dN ?_ _ | refine Below.drew ?_ | refine Below.alloc ?_ (by first | omega | (simp; done) | (simp; omega)) _ | refine Below.setCell ?_ (by first | omega | (simp; done) | (simp; omega)) _ | refine below_step (by assumption) (by first | omega | (simp; done) | (simp; omega)) ?_)⟩
          case measure => simp [intOf]; omega
        · have e0 : (nth a k != nth b k) = true := by simpa using q0
          have Hf := Lib.hid (show decide (a = b) = false by simp only [decide_eq_false_iff_not]; intro h; exact q0 (by rw [h]))
          clear q0
          go_wp2_with fail
          go_quiet (fail)
          go_wp2
          go_ret
          exact ⟨bool_ret Hf.out.symm, by repeat (first | exact Below.refl _ _ | refine below_dN ?_ _ | refine Below.drew ?_ | refine Below.alloc ?_ (by first | omega | (simp; done) | (simp; omega)) _ | refine Below.setCell ?_ (by first | omega | (simp; done) | (simp; omega)) _ | refine below_step (by assumption) (by first | omega | (simp; done) | (simp; omega)) ?_)⟩
      · have Ht := Lib.hid (show decide (a = b) = true by simp only [decide_eq_true_eq]; exact nth_ext Hl.out fun j hj => Hok.out j (by omega))
        go_wp2
        go_ret
        exact ⟨bool_ret Ht.out.symm, by repeat (first | exact Below.refl _ _ | refine below_dN ?_ _ | refine Below.drew ?_ | refine Below.alloc ?_ (by first | omega | (simp; done) | (simp; omega)) _ | refine Below.setCell ?_ (by first | omega | (simp; done) | (simp; omega)) _ | refine below_step (by assumption) (by first | omega | (simp; done) | (simp; omega)) ?_)⟩
  · have hd : ((a.length : Int) != (b.length : Int)) = true := by simp; omega
    have Hf := Lib.hid (show decide (a = b) = false by simp only [decide_eq_false_iff_not]; intro h; exact hl (by rw [h]))
    clear hl
    go_enter Tryz.func15, Tryz.ntmps15
    go_wp2
    go_ret
    exact ⟨bool_ret Hf.out.symm, by repeat (first | exact Below.refl _ _ | refine below_dN ?_ _ | refine Below.drew ?_ | refine Below.alloc ?_ (by first | omega | (simp; done) | (simp; omega)) _ | refine Below.setCell ?_ (by first | omega | (simp; done) | (simp; omega)) _ | refine below_step (by assumption) (by first | omega | (simp; done) | (simp; omega)) ?_)⟩
end

end Go.Proofs.YtpobnjbpglaohaaGreat

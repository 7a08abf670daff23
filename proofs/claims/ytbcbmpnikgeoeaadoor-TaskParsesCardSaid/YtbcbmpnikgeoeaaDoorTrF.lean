/- The reference's read: what its loop keeps. -/
import Derived.Test.YtbcbmpnikgeoeaaDoorTrE
namespace Go.Proofs.YtbcbmpnikgeoeaaDoor
set_option linter.unusedSimpArgs false
set_option linter.unusedVariables false
open Go Go.RowKit
set_option linter.unusedVariables false

theorem own_setAt2 {w : World} {B n cap g i s : Nat} {e : TypeId} {xs : List Value} (h : w.ownsRow B e s (.slice (some ⟨g, 0, none⟩) n cap) n xs) (u : Value) :
    (w.setCell ⟨g, i, none⟩ u).ownsRow B e s (.slice (some ⟨g, 0, none⟩) n cap) n (xs.set i u) := by
  rcases h.2 with ⟨h0, _⟩ | ⟨b, cap', cur, h1, hb, hg, hnc, hcm, hcs, htk⟩
  · cases h0
  · injection h1 with h1 h2 h3
    injection h1 with h1
    injection h1 with h1 _ _
    subst h1 h3
    refine ⟨by rw [List.length_set]; exact h.1, .inr ⟨g, cap, cur.setIfInBounds i u, rfl, hb, ?_, hnc, hcm, by simpa using hcs, ?_⟩⟩
    · simp [World.setCell, Array.getElem?_modify, hg]
    · rw [Array.toList_setIfInBounds, List.take_set, htk]
theorem own_ty_ne {w : World} {B B' s s' n n' : Nat} {e e' : TypeId} {v v' : Value} {xs xs' : List Value} (h : w.ownsRow B e s v n xs) (h' : w.ownsRow B' e' s' v' n' xs') (hne : e ≠ e') : v.ownBlock = none ∨ v.ownBlock ≠ v'.ownBlock := by
  rcases h.2 with ⟨rfl, _⟩ | ⟨b, cap, cur, rfl, hb, hg, _⟩
  · exact .inl rfl
  · rcases h'.2 with ⟨rfl, _⟩ | ⟨b', cap', cur', rfl, hb', hg', _⟩
    · exact .inr (by simp [Value.ownBlock])
    · refine .inr fun e0 => ?_
      have e1 : b = b' := by simpa [Value.ownBlock] using e0
      subst e1
      rw [hg] at hg'
      injection hg' with hg'
      injection hg' with _ ht
      exact hne ht
theorem EfIs.efs2 {w : World} {bad : Nat → Prop} {B : Nat} {v : Value} {xs : List Value} {l : List Eff} {e : TypeId} (h : EfIs w bad xs l) (ho : w.ownsRow B e 3 v l.length xs) (hl : l.length ≤ 140737488355328) (hb : ∀ g, v.ownBlock = some g → ¬ bad g) :
    ∃ A c, v = .slice A l.length c ∧ (A = none → c = 0) ∧ Efs w bad A l := by
  rcases own_view ho with ⟨rfl, h0⟩ | ⟨g, cap, rfl, hg1, hg2⟩
  · exact ⟨none, 0, by rw [h0], fun _ => rfl, hl, fun hn => absurd hn (by omega)⟩
  · refine ⟨some ⟨g, 0, none⟩, cap, rfl, (fun e => nomatch e), hl, fun _ => ⟨g, 0, rfl, hg2, hb g rfl, fun k hk => ?_⟩⟩
    obtain ⟨S, c, h1, h2, h3, h4⟩ := h.2 k hk
    refine ⟨S, c, ?_, h2, ?_, ?_⟩
    · have := own_cell ho h1; simpa using this
    · have := own_cell ho h3; simpa using this
    · have := own_cell ho h4; simpa using this
/-- Blocks that the loop writes. -/
def bd (B : Nat) (O E : Value) (g : Nat) : Prop := g < B ∨ O.ownBlock = some g ∨ E.ownBlock = some g
def bc (B : Nat) (O : Value) (g : Nat) : Prop := g < B ∨ O.ownBlock = some g
/-- The last operator is open: its effects grow. -/
structure RdO (B : Nat) (wr : World) (q0 ls : List (List UInt8)) (os : List Opr) (O : Value) (xv : List Value) (init : List Opr) (o : Opr) (S : Option Addr) (cS : Nat) (E : Value) (xi ev : List Value) : Prop where
  eos : os = init ++ [o]
  exv : xv = xi ++ [.string o.name, .int .i64 o.cost, .slice S o.pre.length cS, E]
  ini : OpIs wr (bd B O E) xi init
  sz : o.name.size ≤ 65536
  pre : Fac wr (bd B O E) S o.pre
  eow : wr.ownsRow B 53 3 E o.effs.length ev
  efs : EfIs wr (bd B O E) ev o.effs
  rel : opsF q0 = (contW o ls).map (init ++ ·)
/-- The loop: the operators so far lie in O; ls: the lines that are left. -/
structure RdI (B TB : Nat) (wl wr : World) (v0 v1 v2 : Value) (os : List Opr) (O : Value) (xv : List Value) : Prop where
  own : wr.ownsRow B 47 4 O os.length xv
  box : BxI wr TB 27 #[v0, v1, v2, O]
  kb : Kb (fun g => g = TB) wl wr
/-- The operators, all closed. -/
structure RdC (B : Nat) (wr : World) (q0 ls : List (List UInt8)) (os : List Opr) (O : Value) (xv : List Value) : Prop where
  ops : OpIs wr (bc B O) xv os
  rel : opsF q0 = (opsF ls).map (os ++ ·)
section
variable {B TB : Nat} {wl wr wx w9 : World} {v0 v1 v2 O E v' : Value} {q0 ls r : List (List UInt8)} {l : List UInt8} {os init : List Opr} {xv xi ev : List Value} {o x : Opr} {S : Option Addr} {cS : Nat}
theorem bd_bc : ∀ g, g < wr.heap.size → bc B O g → bd B O E g := fun g _ h => h.elim .inl (fun h => .inr (.inl h))
theorem opsC (h : RdO B wr q0 ls os O xv init o S cS E xi ev) (hO : wr.ownsRow B 47 4 O os.length xv) (hl : o.effs.length ≤ 100000) : OpIs wr (bc B O) xv os := by
  obtain ⟨A, c, e1, -, e3⟩ := (h.efs.move (Moves.mono bd_bc)).efs2 h.eow (by omega) (fun g hg hb => by
    rcases hb with hb | hb
    · have := (h.eow.lt g hg).1; omega
    · rcases own_ty_ne h.eow hO (by decide) with h1 | h1
      · rw [h1] at hg; cases hg
      · exact h1 (hg.trans hb.symm))
  have h1 := (h.ini.move (Moves.mono bd_bc)).push (o := o) (c := cS) (d := c) (by have := h.sz; omega) (h.pre.move (Moves.mono bd_bc)) e3
  rw [h.exv, h.eos, e1]
  exact h1
/-- A line that is no effect closes the last operator. -/
theorem RdO.close (h : RdO B wr q0 (l :: r) os O xv init o S cS E xi ev) (hO : wr.ownsRow B 47 4 O os.length xv) (hl : o.effs.length ≤ 100000) (he : isW wEff l = false) : RdC B wr q0 (l :: r) os O xv where
  ops := opsC h hO hl
  rel := by
    rw [h.rel, contW_op he, h.eos]
    cases e : opsF (l :: r) <;> simp [e]
theorem RdO.stop (h : RdO B wr q0 [] os O xv init o S cS E xi ev) (hO : wr.ownsRow B 47 4 O os.length xv) (hl : o.effs.length ≤ 100000) : OpIs wr (bc B O) xv os ∧ opsF q0 = some os := by
  refine ⟨opsC h hO hl, ?_⟩
  rw [h.rel, contW_nil, h.eos]
  rfl
/-- A world in which only new memory was made. -/
theorem RdI.up (h : RdI B TB wl wr v0 v1 v2 os O xv) (hb : Below wr.heap.size wr wx) : RdI B TB wl wx v0 v1 v2 os O xv := ⟨own_below h.own hb, h.box.up hb, h.kb.up hb⟩
theorem RdO.up (h : RdO B wr q0 ls os O xv init o S cS E xi ev) (hb : Below wr.heap.size wr wx) : RdO B wx q0 ls os O xv init o S cS E xi ev :=
  ⟨h.eos, h.exv, h.ini.move (Moves.up hb), h.sz, h.pre.move (Moves.up hb), own_below h.eow hb, h.efs.move (Moves.up hb), h.rel⟩
theorem RdC.up (h : RdC B wr q0 ls os O xv) (hb : Below wr.heap.size wr wx) : RdC B wx q0 ls os O xv := ⟨h.ops.move (Moves.up hb), h.rel⟩
/-- One operator more: it is open. -/
theorem rd_push {c' : Nat} {f : List (Int × Int)} {cst : Int} {nm : ByteArray} (hI : RdI B TB wl wx v0 v1 v2 os O xv) (hC : RdC B wx q0 (l :: r) os O xv) (hTB : TB < B) (hB : B = wl.heap.size) (hs : nm.size ≤ 65536) (hf : Fac wx (bc B O) S f) {ls' : List (List UInt8)}
    (hrel : opsF (l :: r) = contW ⟨nm, cst, f, []⟩ ls') {ob : Obj}
    (hown : w9.ownsRow B 47 4 v' (os.length + 1) (xv ++ [.string nm, .int .i64 cst, .slice S f.length c', .slice none 0 0])) (hg : (wx.alloc ob).grownBy w9 O.ownBlock) (hat : v'.ownBlock = O.ownBlock ∨ v'.ownBlock = some (wx.alloc ob).heap.size) :
    RdI B TB wl (w9.setCell ⟨TB, 3, none⟩ v') v0 v1 v2 (os ++ [⟨nm, cst, f, []⟩]) v' (xv ++ [.string nm, .int .i64 cst, .slice S f.length c', .slice none 0 0]) ∧
    RdO B (w9.setCell ⟨TB, 3, none⟩ v') q0 ls' (os ++ [⟨nm, cst, f, []⟩]) v' (xv ++ [.string nm, .int .i64 cst, .slice S f.length c', .slice none 0 0]) os ⟨nm, cst, f, []⟩ S c' (.slice none 0 0) xv [] := by
  have hm : Moves wx (w9.setCell ⟨TB, 3, none⟩ v') (bc B O) (bd B v' (.slice none 0 0)) := by
    have h1 : Moves wx (wx.alloc ob) (bc B O) (bc B O) := Moves.up ((Below.refl _ _).alloc (Nat.le_refl _) ob)
    have h2 : Moves (wx.alloc ob) w9 (bc B O) (bc B v') := Moves.grownTo (lo := B) hg hat
    have h3 : Moves w9 (w9.setCell ⟨TB, 3, none⟩ v') (bc B v') (bc B v') := Moves.set (p := ⟨TB, 3, none⟩) v' (.inl hTB)
    have h4 : Moves (w9.setCell ⟨TB, 3, none⟩ v') (w9.setCell ⟨TB, 3, none⟩ v') (bc B v') (bd B v' (.slice none 0 0)) := Moves.mono fun g _ h => by
      rcases h with h | h | h
      · exact .inl h
      · exact .inr h
      · cases h
    exact ((h1.trans h2).trans h3).trans h4
  refine ⟨⟨?_, ?_, ?_⟩, ⟨rfl, rfl, hC.ops.move hm, hs, hf.move hm, World.ownsRow_nil _ _ _ _, EfIs.nil _ _, ?_⟩⟩
  · rw [List.length_append]; exact own_set hown hTB
  · have h1 := (hI.box.up ((Below.refl wx.heap.size wx).alloc (Nat.le_refl _) ob)).grown hg (fun e => by have := (hI.own.lt TB e).1; omega)
    exact h1.set 3 v'
  · exact ((hI.kb.alloc ob).grown hg (fun j hj => .inr (by have := (hI.own.lt j hj).1; omega))).set (p := ⟨TB, 3, none⟩) (.inl rfl) v'
  · rw [hC.rel, hrel]
/-- One effect more. -/
theorem rd_eff {gO capO : Nat} {whn : List (Int × Int)} {vx vy : Int} {Sw : Option Addr} {cw : Nat} (hI : RdI B TB wl wx v0 v1 v2 os (.slice (some ⟨gO, 0, none⟩) os.length capO) xv)
    (hO : RdO B wx q0 (l :: r) os (.slice (some ⟨gO, 0, none⟩) os.length capO) xv init o S cS E xi ev) (hTB : TB < B) (hB : B = wl.heap.size) (he : effW l = some ⟨whn, vx, vy⟩) (hf : Fac wx (bd B (.slice (some ⟨gO, 0, none⟩) os.length capO) E) Sw whn) {ob : Obj}
    (hown : w9.ownsRow B 53 3 v' (o.effs.length + 1) (ev ++ [.slice Sw whn.length cw, .int .i64 vx, .int .i64 vy])) (hg : (wx.alloc ob).grownBy w9 E.ownBlock) (hat : v'.ownBlock = E.ownBlock ∨ v'.ownBlock = some (wx.alloc ob).heap.size) :
    RdI B TB wl (w9.setCell ⟨gO, init.length * 4 + 3, none⟩ v') v0 v1 v2 (init ++ [⟨o.name, o.cost, o.pre, o.effs ++ [⟨whn, vx, vy⟩]⟩]) (.slice (some ⟨gO, 0, none⟩) os.length capO) (xi ++ [.string o.name, .int .i64 o.cost, .slice S o.pre.length cS, v']) ∧
    RdO B (w9.setCell ⟨gO, init.length * 4 + 3, none⟩ v') q0 r (init ++ [⟨o.name, o.cost, o.pre, o.effs ++ [⟨whn, vx, vy⟩]⟩]) (.slice (some ⟨gO, 0, none⟩) os.length capO) (xi ++ [.string o.name, .int .i64 o.cost, .slice S o.pre.length cS, v']) init ⟨o.name, o.cost, o.pre, o.effs ++ [⟨whn, vx, vy⟩]⟩ S cS v' xi (ev ++ [.slice Sw whn.length cw, .int .i64 vx, .int .i64 vy]) := by
  have ha : Below wx.heap.size wx (wx.alloc ob) := (Below.refl _ _).alloc (Nat.le_refl _) ob
  have hgO : B ≤ gO := (hI.own.lt gO rfl).1
  have hOa : (wx.alloc ob).ownsRow B 47 4 (.slice (some ⟨gO, 0, none⟩) os.length capO) os.length xv := own_below hI.own ha
  have hEa : (wx.alloc ob).ownsRow B 53 3 E o.effs.length ev := own_below hO.eow ha
  have hO9 : w9.ownsRow B 47 4 (.slice (some ⟨gO, 0, none⟩) os.length capO) os.length xv := hOa.kept hg (own_ty_ne hOa hEa (by decide))
  have hm : Moves wx (w9.setCell ⟨gO, init.length * 4 + 3, none⟩ v') (bd B (.slice (some ⟨gO, 0, none⟩) os.length capO) E) (bd B (.slice (some ⟨gO, 0, none⟩) os.length capO) v') := by
    have h1 : Moves wx (wx.alloc ob) (bd B (.slice (some ⟨gO, 0, none⟩) os.length capO) E) (bd B (.slice (some ⟨gO, 0, none⟩) os.length capO) E) := Moves.up ha
    have h2 : Moves (wx.alloc ob) w9 (bd B (.slice (some ⟨gO, 0, none⟩) os.length capO) E) (bd B (.slice (some ⟨gO, 0, none⟩) os.length capO) v') := Moves.grown hg (fun b h => .inr (.inr h)) fun b hb h => by
      rcases h with h | h | h
      · exact .inl h
      · exact .inr (.inl h)
      · rcases hat with e | e
        · exact .inr (.inr (e ▸ h))
        · rw [e] at h; cases h; omega
    have h3 : Moves w9 (w9.setCell ⟨gO, init.length * 4 + 3, none⟩ v') (bd B (.slice (some ⟨gO, 0, none⟩) os.length capO) v') (bd B (.slice (some ⟨gO, 0, none⟩) os.length capO) v') := Moves.set (p := ⟨gO, init.length * 4 + 3, none⟩) v' (.inr (.inl rfl))
    exact (h1.trans h2).trans h3
  have hxl : xi.length = init.length * 4 := hO.ini.1
  have hset : xv.set (init.length * 4 + 3) v' = xi ++ [.string o.name, .int .i64 o.cost, .slice S o.pre.length cS, v'] := by
    rw [hO.exv, List.set_append_right _ _ (by omega), hxl, Nat.add_sub_cancel_left]
    rfl
  have hln : os.length = init.length + 1 := by rw [hO.eos]; simp
  have hOs := own_setAt2 (i := init.length * 4 + 3) hO9 v'
  rw [hset] at hOs
  refine ⟨⟨?_, ?_, ?_⟩, ⟨rfl, rfl, hO.ini.move hm, hO.sz, hO.pre.move hm, ?_, (hO.efs.push (e := ⟨whn, vx, vy⟩) (c := cw) hf).move hm, ?_⟩⟩
  · have e : (init ++ [(⟨o.name, o.cost, o.pre, o.effs ++ [⟨whn, vx, vy⟩]⟩ : Opr)]).length = os.length := by rw [hln]; simp
    rw [e]; exact hOs
  · have h1 := (hI.box.up ha).grown hg (fun e => by have := (hO.eow.lt TB e).1; omega)
    exact h1.far (p := ⟨gO, init.length * 4 + 3, none⟩) (by show TB ≠ gO; omega) v'
  · exact ((hI.kb.alloc ob).grown hg (fun j hj => .inr (by have := (hO.eow.lt j hj).1; omega))).set (p := ⟨gO, init.length * 4 + 3, none⟩) (.inr (by show wl.heap.size ≤ gO; omega)) v'
  · rw [List.length_append]
    refine own_set' hown (fun e => ?_)
    have h9 := own_ty_ne hown hO9 (by decide)
    rcases h9 with h9 | h9
    · rw [h9] at e; cases e
    · exact h9 e
  · rw [hO.rel, contW_eff he]
end
end Go.Proofs.YtbcbmpnikgeoeaaDoor

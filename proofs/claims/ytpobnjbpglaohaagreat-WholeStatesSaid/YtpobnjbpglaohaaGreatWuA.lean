/- explore: what Explore keeps while it runs: plain, in memory. -/
import Derived.Test.YtpobnjbpglaohaaGreatWtD
import Derived.Test.YtpobnjbpglaohaaGreatWrG
import Derived.Test.YtpobnjbpglaohaaGreatWqC
import Derived.Test.YtpobnjbpglaohaaGreatWqP
namespace Go.Proofs.YtpobnjbpglaohaaGreat
set_option linter.unusedSimpArgs false
set_option linter.unusedVariables false
open Go Go.RowKit Go.Maps
set_option linter.unusedVariables false

theorem fld_cons (f : Fld) (F : List Fld) (i : Nat) : fld (f :: F) (i + 1) = fld F i := by unfold fld; simp [List.getD]
theorem mkF_size : ∀ (l : List Nat) (w b i : Nat), i < l.length → (fld (mkF l w b).1 i).size = l.getD i 0
  | n :: r, w, b, 0, _ => by
    rw [mkF_cons]
    split <;> rfl
  | n :: r, w, b, i + 1, h => by
    have h' : i < r.length := by simpa using h
    rw [mkF_cons]
    split
    · show (fld (_ :: (mkF r (w + 1) (wdN n)).1) (i + 1)).size = _
      rw [fld_cons, mkF_size r _ _ i h']
      simp [List.getD]
    · show (fld (_ :: (mkF r w (b + wdN n)).1) (i + 1)).size = _
      rw [fld_cons, mkF_size r _ _ i h']
      simp [List.getD]
def pkF (t : Tsk) : List Fld := (mkF (natL t.vars) 1 0).1
def pkN (t : Tsk) : Nat := (mkF (natL t.vars) 1 0).2
theorem pkF_len (t : Tsk) : (pkF t).length = t.vars.length := by unfold pkF; rw [mkF_len]; unfold natL; simp
theorem stOk_of {t : Tsk} (hr : Right t) {s : List Int} (hs : StP t.vars s) : StOk (pkF t) s := by
  refine ⟨by rw [pkF_len]; exact hs.1, fun i hi => ?_⟩
  rw [pkF_len] at hi
  obtain ⟨h1, h2⟩ := hs.2 i (by rw [hs.1]; exact hi)
  refine ⟨h1, ?_⟩
  unfold pkF
  rw [mkF_size _ _ _ i (by unfold natL; simpa using hi)]
  have h3 := (hr.dom i hi).1
  have : (natL t.vars).getD i 0 = (nth t.vars i).toNat := by unfold natL nth; simp [List.getD, hi]
  rw [this]
  omega
theorem BOk.lenP {t : Tsk} (hr : Right t) {S : List (List Int)} (h : BOk t S) : S.length ≤ (sts t.vars).length := by
  rcases Nat.lt_or_ge (sts t.vars).length S.length with hlt | hge
  · obtain ⟨i, j, hij, hj, e⟩ := pigeonW (sts t.vars).length (fun i => num t (stI S i)) (fun i hi => (num_eq hr (h.st _ (stI_mem (show i < S.length by omega)))).2)
    have hi' : i < S.length := by omega
    have hj' : j < S.length := by omega
    have e : num t (stI S i) = num t (stI S j) := e
    have := h.once i j hi' hj' (by rw [← sts_num hr (h.st _ (stI_mem hi')), ← sts_num hr (h.st _ (stI_mem hj')), e])
    omega
  · exact hge
theorem stB_P {vars s : List Int} (h : stB vars s = true) : StP vars s := by unfold stB at h; simpa using h
theorem stP_B {vars s : List Int} (h : StP vars s) : stB vars s = true := by unfold stB; simpa using h
section
variable {w w' : World} {base R p mb : Nat} {E : Value} {es : Array MapEntry} {F : List Fld} {n : Nat} {S : List (List Int)} {L : List (Int × Int × Int)} {wb : Nat → Nat}
theorem RegC.below (h : RegC w base R p mb E es F n S L wb) (k : Kb (RegOwn R mb E es) w w') : Below base w w' :=
  k.below (fun b hb hr => by have := (h.types hr).1; omega) (Nat.le_trans h.ge.1 (Nat.le_of_lt h.box.lt))
theorem RegC.ne_box (h : RegC w base R p mb E es F n S L wb) {X : Nat} {T : TypeId} {cs : Array Value} (hx : BxI w X T cs) (h1 : T ≠ 87) (h2 : T ≠ 98) (h3 : T ≠ 3) : ¬ RegOwn R mb E es X := fun hr => by
  unfold BxI at hx
  rcases (h.types hr).2.2 with ⟨cur, cl, hc⟩ | ⟨cur, e, hc, he⟩
  · rw [hx] at hc; simp at hc
  · rw [hx] at hc
    injection hc with hc
    injection hc with _ hc _
    rcases he with he | he | he
    · exact h1 (hc.trans he)
    · exact h2 (hc.trans he)
    · exact h3 (hc.trans he)
theorem RegC.ne_row (h : RegC w base R p mb E es F n S L wb) {B s m : Nat} {T : TypeId} {v : Value} {xs : List Value} (ho : w.ownsRow B T s v m xs) (h1 : T ≠ 87) (h2 : T ≠ 98) (h3 : T ≠ 3) : ∀ g, v.ownBlock = some g → ¬ RegOwn R mb E es g := fun g hg hr => by
  obtain ⟨cur, hc⟩ := own_blk ho hg
  exact h.ne_box (X := g) (T := T) (cs := cur) hc h1 h2 h3 hr
end
/-- What Add returns, in the words of the search. -/
theorem radd2_any {w : World} {base R p mb : Nat} {E : Value} {es : Array MapEntry} {n : Nat} {S : List (List Int)} {L : List (Int × Int × Int)} {wb : Nat → Nat} {t : Tsk} (hr : Right t) (h : RegC w base R p mb E es (pkF t) n S L wb) (hB : BOk t S) (s : List Int) (A : Option Addr) (c : Nat) (hs : IntsAt w w.heap.size A s) (hst : StP t.vars s) (hsm : S.length < 60000) :
    Calls Tryz.prog 10 #[.pointer (some ⟨R, 0, none⟩), .slice A s.length c] w fun e w' => ∃ fr E' es' L' wb', e = .returned (.tuple #[.int .i64 (idS S s : Nat), .bool fr, .nilIface]) ∧ Kb (RegOwn R mb E es) w w' ∧ RegC w' base R p mb E' es' (pkF t) n (adS S s) L' wb' ∧
      (∀ b, b < w.heap.size → RegOwn R mb E' es' b → RegOwn R mb E es b) ∧ (fr = true → L' = L ++ [(-1, -1, 0)] ∧ idS S s = S.length ∧ adS S s = S ++ [s]) ∧ (fr = false → L' = L ∧ adS S s = S) := by
  refine (radd_any h s A c hs (stOk_of hr hst) hsm).mono ?_
  rintro e w' (⟨i, hi, hsi, rfl, hb⟩ | ⟨hno, rfl, hk, E', es', wb', h1, h2, h3, h4⟩)
  · obtain ⟨e1, e2⟩ := idS_at hB hi hsi
    refine ⟨false, E, es, L, wb, by rw [e1], Kb.of_below hb, ?_, fun b _ h => h, (fun h => by cases h), fun _ => ⟨rfl, e2⟩⟩
    rw [e2]
    exact h.keep (Kb.of_below (bad := fun _ => False) hb) (fun _ hc => hc.elim) (fun _ hc => hc.elim) (fun _ hc => hc.elim)
  · obtain ⟨e1, e2⟩ := idS_new hno
    exact ⟨true, E', es', _, wb', by rw [e1], hk, by rw [e2]; exact h1, h2, fun _ => ⟨rfl, e1, e2⟩, (fun h => by cases h)⟩
/-- What Explore keeps. -/
structure ExI (w W9 Wc : World) (sA base X R p mb : Nat) (t : Tsk) (pt : Lies) (S : List (List Int)) (E : List (Nat × Nat × Nat)) (gs : List Bool) (RE : Value) (es : Array MapEntry) (L : List (Int × Int × Int)) (wb : Nat → Nat) (EA : Option Addr) (EC : Nat) (GA : Option Addr) (GC : Nat) : Prop where
  reg : RegC w base R p mb RE es (pkF t) (pkN t) S L wb
  box : BxI w X 76 #[.slice pt.av t.vars.length pt.cv, .slice pt.ai t.init.length pt.ci, .slice pt.ag t.goal.length pt.cg, .slice pt.ao t.ops.length pt.co, .pointer (some ⟨R, 0, none⟩), .slice EA E.length EC, .slice GA gs.length GC, .slice none 0 0, .slice none 0 0, .slice none 0 0]
  ed : w.ownsRow (X + 1) 64 3 (.slice EA E.length EC) E.length (edC E)
  go : w.ownsRow (X + 1) 4 1 (.slice GA gs.length GC) gs.length (blC gs)
  low : Below base W9 w
  kc : Kb (fun b => b < sA) Wc w
  rw : ∀ b, b < Wc.heap.size → RegOwn R mb RE es b → b < sA
  xge : Wc.heap.size ≤ X
  bx : base ≤ X
section
variable {w w' W9 Wc : World} {sA base X R p mb : Nat} {t : Tsk} {pt : Lies} {S : List (List Int)} {E : List (Nat × Nat × Nat)} {gs : List Bool} {RE : Value} {es : Array MapEntry} {L : List (Int × Int × Int)} {wb : Nat → Nat} {EA : Option Addr} {EC : Nat} {GA : Option Addr} {GC : Nat}
theorem ExI.bsz (h : ExI w W9 Wc sA base X R p mb t pt S E gs RE es L wb EA EC GA GC) : base ≤ w.heap.size := Nat.le_trans h.bx (Nat.le_of_lt h.box.lt)
theorem ExI.up (h : ExI w W9 Wc sA base X R p mb t pt S E gs RE es L wb EA EC GA GC) (k : Below w.heap.size w w') : ExI w' W9 Wc sA base X R p mb t pt S E gs RE es L wb EA EC GA GC :=
  { h with reg := h.reg.keep (Kb.of_below (bad := fun _ => False) k) (fun _ hc => hc.elim) (fun _ hc => hc.elim) (fun _ hc => hc.elim), box := h.box.up k, ed := own_kb1 h.ed (Kb.of_below (bad := fun _ => False) k) (fun _ _ h => h), go := own_kb1 h.go (Kb.of_below (bad := fun _ => False) k) (fun _ _ h => h), low := h.low.trans (k.mono h.bsz), kc := h.kc.up k }
theorem ExI.add (h : ExI w W9 Wc sA base X R p mb t pt S E gs RE es L wb EA EC GA GC) {RE' : Value} {es' : Array MapEntry} {S' : List (List Int)} {L' : List (Int × Int × Int)} {wb' : Nat → Nat} (k : Kb (RegOwn R mb RE es) w w') (hr : RegC w' base R p mb RE' es' (pkF t) (pkN t) S' L' wb') (hrow : ∀ b, b < w.heap.size → RegOwn R mb RE' es' b → RegOwn R mb RE es b) :
    ExI w' W9 Wc sA base X R p mb t pt S' E gs RE' es' L' wb' EA EC GA GC :=
  { h with reg := hr, box := h.box.kb k (h.reg.ne_box h.box (by decide) (by decide) (by decide)), ed := own_kb1 h.ed k (h.reg.ne_row h.ed (by decide) (by decide) (by decide)), go := own_kb1 h.go k (h.reg.ne_row h.go (by decide) (by decide) (by decide)), low := h.low.trans (h.reg.below k), kc := h.kc.then_ k (fun b hb hr => h.rw b hb hr), rw := fun b hb hr => h.rw b hb (hrow b (Nat.lt_of_lt_of_le hb h.kc.size) hr) }
theorem ExI.reg_far (h : ExI w W9 Wc sA base X R p mb t pt S E gs RE es L wb EA EC GA GC) {c : Nat → Prop} (k : Kb c w w') (hb : ∀ b, c b → base ≤ b) (ho : ∀ b, c b → ¬ RegOwn R mb RE es b) (hw : ∀ b, c b → ∃ T cs, BxI w b T cs ∧ T ≠ 100) : RegC w' base R p mb RE es (pkF t) (pkN t) S L wb :=
  h.reg.keep k hb ho (fun b hc i hi e => by
    obtain ⟨T, cs, hx, hne⟩ := hw b hc
    have h2 := h.reg.wds i hi
    unfold BxI at hx h2
    rw [e, h2] at hx
    injection hx with hx
    injection hx with _ hx _
    exact hne hx.symm)
/-- One goal mark more. -/
theorem ExI.goal {o : Obj} {w1 : World} {b : Bool} {A' : Option Addr} {c' : Nat} (h : ExI w W9 Wc sA base X R p mb t pt S E gs RE es L wb EA EC GA GC) (hg : (w.alloc o).grownBy w1 (Value.slice GA gs.length GC).ownBlock) (hown : w1.ownsRow (X + 1) 4 1 (.slice A' (gs.length + 1) c') (gs.length + 1) (blC gs ++ [.bool b])) :
    ExI (w1.setCell ⟨X, 6, none⟩ (.slice A' (gs.length + 1) c')) W9 Wc sA base X R p mb t pt S E (gs ++ [b]) RE es L wb EA EC A' c' := by
  have KG : Kb (fun b => (Value.slice GA gs.length GC).ownBlock = some b) w w1 := (kb_alloc w o _).trans (kb_grown hg)
  have KX := kb_set (w := w1) (p := ⟨X, 6, none⟩) (.slice A' (gs.length + 1) c')
  have K : Kb (fun b => (Value.slice GA gs.length GC).ownBlock = some b ∨ b = X) w (w1.setCell ⟨X, 6, none⟩ (.slice A' (gs.length + 1) c')) := (KG.mono (fun b _ h => .inl h)).trans (KX.mono (fun b _ h => .inr h))
  have hgx := own_ne_box h.go h.box (by decide)
  have hlen : (gs ++ [b]).length = gs.length + 1 := by simp
  refine { reg := ?_, box := ?_, ed := ?_, go := ?_, low := ?_, kc := ?_, rw := h.rw, xge := h.xge, bx := h.bx }
  · refine h.reg_far K (fun b hc => ?_) (fun b hc => ?_) (fun b hc => ?_)
    · rcases hc with hc | hc
      · have := (h.go.lt b hc).1; have := h.bx; omega
      · rw [hc]; exact h.bx
    · rcases hc with hc | hc
      · exact h.reg.ne_row h.go (by decide) (by decide) (by decide) b hc
      · rw [hc]; exact h.reg.ne_box h.box (by decide) (by decide) (by decide)
    · rcases hc with hc | hc
      · obtain ⟨cur, hcur⟩ := own_blk h.go hc
        exact ⟨_, cur, hcur, by decide⟩
      · rw [hc]; exact ⟨_, _, h.box, by decide⟩
  · rw [hlen]
    exact (h.box.kb KG (fun e => hgx _ e rfl)).set 6 _
  · refine own_kb1 h.ed K (fun g hg hc => ?_)
    rcases hc with hc | hc
    · obtain ⟨cur, h1⟩ := own_blk h.ed hg
      obtain ⟨cur2, h2⟩ := own_blk h.go hc
      rw [h1] at h2; simp at h2
    · exact own_ne_box h.ed h.box (by decide) g hg hc
  · rw [hlen]
    have e : blC (gs ++ [b]) = blC gs ++ [.bool b] := by unfold blC; simp
    rw [e]
    exact own_kb1 hown KX (fun g hg hc => by have := (hown.lt g hg).1; have hc : g = X := hc; omega)
  · exact below_then h.low K (fun b hb hc => by
      rcases hc with hc | hc
      · have := (h.go.lt b hc).1; have := h.bx; omega
      · have := h.bx; omega) h.bsz
  · exact h.kc.then_ K (fun b hb hc => by
      rcases hc with hc | hc
      · have := (h.go.lt b hc).1; have := h.xge; omega
      · have := h.xge; omega)
/-- One edge more. -/
theorem ExI.edge {o : Obj} {w1 : World} {a l b : Nat} {A' : Option Addr} {c' : Nat} (h : ExI w W9 Wc sA base X R p mb t pt S E gs RE es L wb EA EC GA GC) (hg : (w.alloc o).grownBy w1 (Value.slice EA E.length EC).ownBlock) (hown : w1.ownsRow (X + 1) 64 3 (.slice A' (E.length + 1) c') (E.length + 1) (edC E ++ [.int .i64 a, .int .i64 l, .int .i64 b])) :
    ExI (w1.setCell ⟨X, 5, none⟩ (.slice A' (E.length + 1) c')) W9 Wc sA base X R p mb t pt S (E ++ [(a, l, b)]) gs RE es L wb A' c' GA GC := by
  have KG : Kb (fun b => (Value.slice EA E.length EC).ownBlock = some b) w w1 := (kb_alloc w o _).trans (kb_grown hg)
  have KX := kb_set (w := w1) (p := ⟨X, 5, none⟩) (.slice A' (E.length + 1) c')
  have K : Kb (fun b => (Value.slice EA E.length EC).ownBlock = some b ∨ b = X) w (w1.setCell ⟨X, 5, none⟩ (.slice A' (E.length + 1) c')) := (KG.mono (fun b _ h => .inl h)).trans (KX.mono (fun b _ h => .inr h))
  have hgx := own_ne_box h.ed h.box (by decide)
  have hlen : (E ++ [(a, l, b)]).length = E.length + 1 := by simp
  refine { reg := ?_, box := ?_, ed := ?_, go := ?_, low := ?_, kc := ?_, rw := h.rw, xge := h.xge, bx := h.bx }
  · refine h.reg_far K (fun b hc => ?_) (fun b hc => ?_) (fun b hc => ?_)
    · rcases hc with hc | hc
      · have := (h.ed.lt b hc).1; have := h.bx; omega
      · rw [hc]; exact h.bx
    · rcases hc with hc | hc
      · exact h.reg.ne_row h.ed (by decide) (by decide) (by decide) b hc
      · rw [hc]; exact h.reg.ne_box h.box (by decide) (by decide) (by decide)
    · rcases hc with hc | hc
      · obtain ⟨cur, hcur⟩ := own_blk h.ed hc
        exact ⟨_, cur, hcur, by decide⟩
      · rw [hc]; exact ⟨_, _, h.box, by decide⟩
  · rw [hlen]
    exact (h.box.kb KG (fun e => hgx _ e rfl)).set 5 _
  · rw [hlen, edC_app]
    exact own_kb1 hown KX (fun g hg hc => by have := (hown.lt g hg).1; have hc : g = X := hc; omega)
  · refine own_kb1 h.go K (fun g hg hc => ?_)
    rcases hc with hc | hc
    · obtain ⟨cur, h1⟩ := own_blk h.go hg
      obtain ⟨cur2, h2⟩ := own_blk h.ed hc
      rw [h1] at h2; simp at h2
    · exact own_ne_box h.go h.box (by decide) g hg hc
  · exact below_then h.low K (fun b hb hc => by
      rcases hc with hc | hc
      · have := (h.ed.lt b hc).1; have := h.bx; omega
      · have := h.bx; omega) h.bsz
  · exact h.kc.then_ K (fun b hb hc => by
      rcases hc with hc | hc
      · have := (h.ed.lt b hc).1; have := h.xge; omega
      · have := h.xge; omega)
end
/-- A generator whose parts lie below B. -/
def GenB (w : World) (B G : Nat) (t : Tsk) : Prop := ∃ w0, GenAt w0 G t ∧ w0.heap.size ≤ B ∧ Below w0.heap.size w0 w
theorem GenB.at_ {w : World} {B G : Nat} {t : Tsk} (h : GenB w B G t) : GenAt w G t := by
  obtain ⟨w0, h1, _, h2⟩ := h
  exact h1.up h2
theorem GenB.low {w w' : World} {B G : Nat} {t : Tsk} (h : GenB w B G t) (k : Below B w w') : GenB w' B G t := by
  obtain ⟨w0, h1, h2, h3⟩ := h
  exact ⟨w0, h1, h2, h3.trans (k.mono h2)⟩
/-- A space that holds what the search found. -/
def SpAt (w : World) (X : Nat) (t : Tsk) (Y : BS) : Prop := ∃ (base R p mb : Nat) (RE : Value) (es : Array MapEntry) (L : List (Int × Int × Int)) (wb : Nat → Nat) (pt : Lies) (EA : Option Addr) (EC : Nat) (GV c7 c8 c9 : Value) (bE : Nat), RegC w base R p mb RE es (pkF t) (pkN t) Y.1 L wb ∧ BxI w X 76 #[.slice pt.av t.vars.length pt.cv, .slice pt.ai t.init.length pt.ci, .slice pt.ag t.goal.length pt.cg, .slice pt.ao t.ops.length pt.co, .pointer (some ⟨R, 0, none⟩), .slice EA Y.2.length EC, GV, c7, c8, c9] ∧ w.ownsRow bE 64 3 (.slice EA Y.2.length EC) Y.2.length (edC Y.2)
theorem SpAt.up {w w' : World} {X : Nat} {t : Tsk} {Y : BS} (h : SpAt w X t Y) (k : Below w.heap.size w w') : SpAt w' X t Y := by
  obtain ⟨base, R, p, mb, RE, es, L, wb, pt, EA, EC, GV, c7, c8, c9, bE, h1, h2, h3⟩ := h
  exact ⟨base, R, p, mb, RE, es, L, wb, pt, EA, EC, GV, c7, c8, c9, bE, h1.keep (Kb.of_below (bad := fun _ => False) k) (fun _ hc => hc.elim) (fun _ hc => hc.elim) (fun _ hc => hc.elim), h2.up k, own_kb1 h3 (Kb.of_below (bad := fun _ => False) k) (fun _ _ h => h)⟩
end Go.Proofs.YtpobnjbpglaohaaGreat

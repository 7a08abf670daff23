/- The law SimplexScales. -/
import Derived.Test.YtaomaopbdilmnaaSxSa
namespace Go.Proofs.Ytaomaopbdilmnaa
set_option linter.unusedSimpArgs false
set_option linter.unusedVariables false
open Go Go.RowKit
set_option linter.unusedVariables false

/-- The walk from a set of operations that are done. -/
def NodeG (P : Program) (md : Region.Mode) (ops : Array Oper) (Q : Exit → Act → World → Prop) (st : Nat) (S : World → Prop) (fuel : Nat) (listed : Array Bool) (a : Act) (w : World) : Prop := Cl md ops listed ∧ Gd st S listed w → wpAnyG P md ops Q st S fuel listed a w
section
variable {P : Program} {md : Region.Mode} {ops : Array Oper} {Q : Exit → Act → World → Prop} {st : Nat} {S : World → Prop} {fuel : Nat} {l l' : Array Bool} {a : Act} {w : World}
theorem node_here (h : NodeG P md ops Q st S fuel l a w) (hG : Cl md ops l ∧ Gd st S l w) : wpAnyG P md ops Q st S fuel l a w := h hG
theorem node_move (e : l = l') (h : NodeG P md ops Q st S fuel l' a w) (hG : Cl md ops l ∧ Gd st S l w) : wpAnyG P md ops Q st S fuel l a w := by subst e; exact h hG
end
theorem merge2 {α0 α1 : Type} {T : Prop} {F G : α0 → α1 → Prop} (walk : (∀ (x0 : α0) (x1 : α1), F x0 x1 → G x0 x1) → T) (rest : ∀ (x0 : α0) (x1 : α1), F x0 x1 → G x0 x1) : T := walk rest
theorem merge3 {α0 α1 α2 : Type} {T : Prop} {F G : α0 → α1 → α2 → Prop} (walk : (∀ (x0 : α0) (x1 : α1) (x2 : α2), F x0 x1 x2 → G x0 x1 x2) → T) (rest : ∀ (x0 : α0) (x1 : α1) (x2 : α2), F x0 x1 x2 → G x0 x1 x2) : T := walk rest
theorem merge4 {α0 α1 α2 α3 : Type} {T : Prop} {F G : α0 → α1 → α2 → α3 → Prop} (walk : (∀ (x0 : α0) (x1 : α1) (x2 : α2) (x3 : α3), F x0 x1 x2 x3 → G x0 x1 x2 x3) → T) (rest : ∀ (x0 : α0) (x1 : α1) (x2 : α2) (x3 : α3), F x0 x1 x2 x3 → G x0 x1 x2 x3) : T := walk rest
theorem merge5 {α0 α1 α2 α3 α4 : Type} {T : Prop} {F G : α0 → α1 → α2 → α3 → α4 → Prop} (walk : (∀ (x0 : α0) (x1 : α1) (x2 : α2) (x3 : α3) (x4 : α4), F x0 x1 x2 x3 x4 → G x0 x1 x2 x3 x4) → T) (rest : ∀ (x0 : α0) (x1 : α1) (x2 : α2) (x3 : α3) (x4 : α4), F x0 x1 x2 x3 x4 → G x0 x1 x2 x3 x4) : T := walk rest
theorem merge6 {α0 α1 α2 α3 α4 α5 : Type} {T : Prop} {F G : α0 → α1 → α2 → α3 → α4 → α5 → Prop} (walk : (∀ (x0 : α0) (x1 : α1) (x2 : α2) (x3 : α3) (x4 : α4) (x5 : α5), F x0 x1 x2 x3 x4 x5 → G x0 x1 x2 x3 x4 x5) → T) (rest : ∀ (x0 : α0) (x1 : α1) (x2 : α2) (x3 : α3) (x4 : α4) (x5 : α5), F x0 x1 x2 x3 x4 x5 → G x0 x1 x2 x3 x4 x5) : T := walk rest
theorem merge7 {α0 α1 α2 α3 α4 α5 α6 : Type} {T : Prop} {F G : α0 → α1 → α2 → α3 → α4 → α5 → α6 → Prop} (walk : (∀ (x0 : α0) (x1 : α1) (x2 : α2) (x3 : α3) (x4 : α4) (x5 : α5) (x6 : α6), F x0 x1 x2 x3 x4 x5 x6 → G x0 x1 x2 x3 x4 x5 x6) → T) (rest : ∀ (x0 : α0) (x1 : α1) (x2 : α2) (x3 : α3) (x4 : α4) (x5 : α5) (x6 : α6), F x0 x1 x2 x3 x4 x5 x6 → G x0 x1 x2 x3 x4 x5 x6) : T := walk rest
theorem merge8 {α0 α1 α2 α3 α4 α5 α6 α7 : Type} {T : Prop} {F G : α0 → α1 → α2 → α3 → α4 → α5 → α6 → α7 → Prop} (walk : (∀ (x0 : α0) (x1 : α1) (x2 : α2) (x3 : α3) (x4 : α4) (x5 : α5) (x6 : α6) (x7 : α7), F x0 x1 x2 x3 x4 x5 x6 x7 → G x0 x1 x2 x3 x4 x5 x6 x7) → T) (rest : ∀ (x0 : α0) (x1 : α1) (x2 : α2) (x3 : α3) (x4 : α4) (x5 : α5) (x6 : α6) (x7 : α7), F x0 x1 x2 x3 x4 x5 x6 x7 → G x0 x1 x2 x3 x4 x5 x6 x7) : T := walk rest
theorem merge9 {α0 α1 α2 α3 α4 α5 α6 α7 α8 : Type} {T : Prop} {F G : α0 → α1 → α2 → α3 → α4 → α5 → α6 → α7 → α8 → Prop} (walk : (∀ (x0 : α0) (x1 : α1) (x2 : α2) (x3 : α3) (x4 : α4) (x5 : α5) (x6 : α6) (x7 : α7) (x8 : α8), F x0 x1 x2 x3 x4 x5 x6 x7 x8 → G x0 x1 x2 x3 x4 x5 x6 x7 x8) → T) (rest : ∀ (x0 : α0) (x1 : α1) (x2 : α2) (x3 : α3) (x4 : α4) (x5 : α5) (x6 : α6) (x7 : α7) (x8 : α8), F x0 x1 x2 x3 x4 x5 x6 x7 x8 → G x0 x1 x2 x3 x4 x5 x6 x7 x8) : T := walk rest
theorem merge11 {α0 α1 α2 α3 α4 α5 α6 α7 α8 α9 α10 : Type} {T : Prop} {F G : α0 → α1 → α2 → α3 → α4 → α5 → α6 → α7 → α8 → α9 → α10 → Prop} (walk : (∀ (x0 : α0) (x1 : α1) (x2 : α2) (x3 : α3) (x4 : α4) (x5 : α5) (x6 : α6) (x7 : α7) (x8 : α8) (x9 : α9) (x10 : α10), F x0 x1 x2 x3 x4 x5 x6 x7 x8 x9 x10 → G x0 x1 x2 x3 x4 x5 x6 x7 x8 x9 x10) → T) (rest : ∀ (x0 : α0) (x1 : α1) (x2 : α2) (x3 : α3) (x4 : α4) (x5 : α5) (x6 : α6) (x7 : α7) (x8 : α8) (x9 : α9) (x10 : α10), F x0 x1 x2 x3 x4 x5 x6 x7 x8 x9 x10 → G x0 x1 x2 x3 x4 x5 x6 x7 x8 x9 x10) : T := walk rest
/-- Two lists under way. -/
structure TwoR (w : World) (B : Nat) (lc lb : List (Int × Int)) (v6 v7 : Value) : Prop where
  c : w.ownsRow B 29 2 v6 lc.length (fc lc)
  b : w.ownsRow B 29 2 v7 lb.length (fc lb)
  cb : v6.ownBlock = none ∨ v6.ownBlock ≠ v7.ownBlock
theorem opt_sym {a b : Option Nat} (h : a = none ∨ a ≠ b) : b = none ∨ b ≠ a := by
  rcases h with h | h
  · subst h
    cases b
    · exact .inl rfl
    · exact .inr (by simp)
  · exact .inr (Ne.symm h)
theorem drew_sz (w : World) : w.drew.heap.size = w.heap.size := rfl
theorem blk_lt {w : World} {H : Nat} {o : Obj} (h : w.heap[H]? = some o) : H < w.heap.size := (Array.getElem?_eq_some_iff.1 h).1
section
variable {w w' : World} {B : Nat} {lc lb : List (Int × Int)} {v6 v7 v : Value} {x y : Int}
theorem TwoR.up (h : TwoR w B lc lb v6 v7) (hb : Below w.heap.size w w') : TwoR w' B lc lb v6 v7 := ⟨own_below h.c hb, own_below h.b hb, h.cb⟩
theorem TwoR.alloc (h : TwoR w B lc lb v6 v7) (o : Obj) : TwoR (w.alloc o) B lc lb v6 v7 := h.up ((Below.refl _ _).alloc (Nat.le_refl _) _)
theorem TwoR.pushC (h : TwoR w B lc lb v6 v7) (ho : w'.ownsRow B 29 2 v (lc.length + 1) (fc lc ++ [.int .i64 x, .int .i64 y])) (hg : w.grownBy w' v6.ownBlock) (hat : v.ownBlock = v6.ownBlock ∨ v.ownBlock = some w.heap.size) : TwoR w' B (lc ++ [(x, y)]) lb v v7 where
  c := by rw [List.length_append, fc_app]; exact ho
  b := h.b.kept hg (opt_sym h.cb)
  cb := by
    rcases hat with e | e
    · rw [e]; exact h.cb
    · exact .inr fun e2 => by have := (h.b.lt w.heap.size (by rw [← e2, e])).2; omega
theorem TwoR.pushB (h : TwoR w B lc lb v6 v7) (ho : w'.ownsRow B 29 2 v (lb.length + 1) (fc lb ++ [.int .i64 x, .int .i64 y])) (hg : w.grownBy w' v7.ownBlock) (hat : v.ownBlock = v7.ownBlock ∨ v.ownBlock = some w.heap.size) : TwoR w' B lc (lb ++ [(x, y)]) v6 v where
  c := h.c.kept hg h.cb
  b := by rw [List.length_append, fc_app]; exact ho
  cb := by
    rcases hat with e | e
    · rw [e]; exact h.cb
    · exact .inr fun e2 => by have := (h.c.lt w.heap.size (by rw [e2, e])).2; omega
theorem TwoR.start (w : World) : TwoR ((w.alloc (.cells #[] 29)).alloc (.cells #[] 29)) w.heap.size [] [] (.slice (some ⟨w.heap.size, 0, none⟩) 0 0) (.slice (some ⟨w.heap.size + 1, 0, none⟩) 0 0) where
  c := (own_built (B := w.heap.size) (e := 29) (s := 2) w #[] 0 (Nat.le_refl _) (by simp [maxLen]) rfl).alloc _
  b := by
    have := own_built (B := w.heap.size) (e := 29) (s := 2) (w.alloc (.cells #[] 29)) #[] 0 (by simp) (by simp [maxLen]) rfl
    rw [World.size_alloc] at this
    exact this
  cb := .inr fun e => by
    simp [Value.ownBlock] at e
end
theorem own_factsL {w : World} {B : Nat} {A : Option Addr} {l : List (Int × Int)} {c : Nat} (h : w.ownsRow B 29 2 (.slice A l.length c) l.length (fc l)) (hl : l.length ≤ 140737488355328) : FactsAt w w.heap.size A l := by
  obtain ⟨A', c', e, _, hF⟩ := own_fracs h hl
  injection e with e1 _ _
  rw [e1]; exact hF
/-- Two lists of different kinds under way in a region that draws its order. -/
structure DSt (W : World) (sv : Value) (p q : Int) (w : World) (va : Value) (xs : List Value) (vb : Value) (l : List (Int × Int)) (ea eb : Option Nat) : Prop where
  bel : Below W.heap.size W w
  ra : w.ownsRow W.heap.size 22 1 va xs.length xs
  rb : w.ownsRow W.heap.size 29 2 vb l.length (fc l)
  fa : ∀ H, ea = some H → w.heap[H]? = some (.cells #[sv] 22 (0, 0)) ∧ va.ownBlock ≠ some H
  fb : ∀ H, eb = some H → w.heap[H]? = some (.cells #[.int .i64 p, .int .i64 q] 29 (0, 0)) ∧ vb.ownBlock ≠ some H
section
variable {W w w' : World} {sv va vb v' : Value} {p q : Int} {xs ys XS : List Value} {l l2 L : List (Int × Int)} {ea eb : Option Nat} {K : Act → World → Prop} {a : Act}
theorem DSt.start (W : World) (sv : Value) (p q : Int) : DSt W sv p q W.drew (.slice none 0 0) [] (.slice none 0 0) [] none none :=
  ⟨(Below.refl _ _).drew, World.ownsRow_nil _ _ _ _, World.ownsRow_nil _ _ _ _, (fun H h => nomatch h), (fun H h => nomatch h)⟩
theorem DSt.base (h : DSt W sv p q w va xs vb l ea eb) : W.heap.size ≤ w.heap.size := h.bel.size
theorem DSt.up (h : DSt W sv p q w va xs vb l ea eb) (hb : Below w.heap.size w w') : DSt W sv p q w' va xs vb l ea eb :=
  ⟨h.bel.trans (hb.mono h.base), own_below h.ra hb, own_below h.rb hb, fun H e => ⟨(hb.block H (blk_lt (h.fa H e).1)).trans (h.fa H e).1, (h.fa H e).2⟩, fun H e => ⟨(hb.block H (blk_lt (h.fb H e).1)).trans (h.fb H e).1, (h.fb H e).2⟩⟩
theorem DSt.k0 (h : DSt W sv p q w va xs vb l ea eb) (hk : ∀ wN, DSt W sv p q wN (.slice (some ⟨w.heap.size, 0, none⟩) 0 0) [] vb l ea eb → K a wN) : K a (w.alloc (.cells #[] 22)) := by
  have hu := h.up ((Below.refl w.heap.size w).alloc (Nat.le_refl _) (.cells #[] 22))
  refine hk _ ⟨hu.bel, own_built (B := W.heap.size) (e := 22) (s := 1) w #[] 0 h.base (by simp [maxLen]) rfl, hu.rb, fun H e => ⟨(hu.fa H e).1, fun e2 => ?_⟩, hu.fb⟩
  have := blk_lt (h.fa H e).1
  have e3 : w.heap.size = H := by simpa [Value.ownBlock] using e2
  omega
theorem DSt.k11 (h : DSt W sv p q w va xs vb l ea eb) (hk : ∀ wN, DSt W sv p q wN va xs (.slice (some ⟨w.heap.size, 0, none⟩) 0 0) [] ea eb → K a wN) : K a (w.alloc (.cells #[] 29)) := by
  have hu := h.up ((Below.refl w.heap.size w).alloc (Nat.le_refl _) (.cells #[] 29))
  refine hk _ ⟨hu.bel, hu.ra, own_built (B := W.heap.size) (e := 29) (s := 2) w #[] 0 h.base (by simp [maxLen]) rfl, hu.fa, fun H e => ⟨(hu.fb H e).1, fun e2 => ?_⟩⟩
  have := blk_lt (h.fb H e).1
  have e3 : w.heap.size = H := by simpa [Value.ownBlock] using e2
  omega
theorem DSt.k9 (h : DSt W sv p q w va xs vb l ea eb) (hk : ∀ wN, DSt W sv p q wN va xs vb l (some w.heap.size) eb → K a wN) : K a (w.alloc (.cells #[sv] 22)) := by
  have hu := h.up ((Below.refl w.heap.size w).alloc (Nat.le_refl _) (.cells #[sv] 22))
  refine hk _ ⟨hu.bel, hu.ra, hu.rb, fun H e => ?_, hu.fb⟩
  cases e
  exact ⟨heap_alloc_new _ _, fun e2 => by have := (h.ra.lt _ e2).2; omega⟩
theorem DSt.k20 (h : DSt W sv p q w va xs vb l ea eb) (hk : ∀ wN, DSt W sv p q wN va xs vb l ea (some w.heap.size) → K a wN) : K a (w.alloc (.cells #[.int .i64 p, .int .i64 q] 29)) := by
  have hu := h.up ((Below.refl w.heap.size w).alloc (Nat.le_refl _) (.cells #[.int .i64 p, .int .i64 q] 29))
  refine hk _ ⟨hu.bel, hu.ra, hu.rb, hu.fa, fun H e => ?_⟩
  cases e
  exact ⟨heap_alloc_new _ _, fun e2 => by have := (h.rb.lt _ e2).2; omega⟩
theorem own_ty {B s n H : Nat} {e T : TypeId} {v : Value} {zs : List Value} {cs : Array Value} {u : Nat × Nat} (h : w.ownsRow B e s v n zs) (h1 : w.heap[H]? = some (.cells cs T u)) (hT : T ≠ e) : some H ≠ v.ownBlock := fun e2 => by
  rcases h.2 with ⟨rfl, _⟩ | ⟨g, cap, cur, rfl, _, hg', _⟩
  · cases e2
  · have e3 : H = g := by simpa [Value.ownBlock] using e2
    rw [e3, hg'] at h1
    injection h1 with h1
    injection h1 with _ ht
    exact hT ht.symm
theorem DSt.appA (h : DSt W sv p q w va xs vb l ea eb) (ho : w'.ownsRow W.heap.size 22 1 v' (xs.length + ys.length) (xs ++ ys)) (hg : w.grownBy w' va.ownBlock) (hat : v'.ownBlock = va.ownBlock ∨ v'.ownBlock = some w.heap.size) (hL : xs ++ ys = XS) : DSt W sv p q w' v' XS vb l ea eb where
  bel := Below.grown h.bel hg h.base fun g e => (h.ra.lt g e).1
  ra := by rw [← hL, List.length_append]; exact ho
  rb := h.rb.kept hg (own_apt3 h.rb h.ra (by decide))
  fa := fun H e => by
    obtain ⟨h1, h2⟩ := h.fa H e
    refine ⟨(hg.block H (blk_lt h1) (Ne.symm h2)).trans h1, ?_⟩
    rcases hat with e2 | e2
    · rw [e2]; exact h2
    · rw [e2]
      intro e3
      injection e3 with e3
      have := blk_lt h1
      omega
  fb := fun H e => by
    obtain ⟨h1, h2⟩ := h.fb H e
    exact ⟨(hg.block H (blk_lt h1) (own_ty h.ra h1 (by decide))).trans h1, h2⟩
theorem DSt.appB (h : DSt W sv p q w va xs vb l ea eb) (ho : w'.ownsRow W.heap.size 29 2 v' (l.length + l2.length) (fc l ++ fc l2)) (hg : w.grownBy w' vb.ownBlock) (hat : v'.ownBlock = vb.ownBlock ∨ v'.ownBlock = some w.heap.size) (hL : l ++ l2 = L) : DSt W sv p q w' va xs v' L ea eb where
  bel := Below.grown h.bel hg h.base fun g e => (h.rb.lt g e).1
  ra := h.ra.kept hg (own_apt3 h.ra h.rb (by decide))
  rb := by rw [← hL, List.length_append, fc_app]; exact ho
  fa := fun H e => by
    obtain ⟨h1, h2⟩ := h.fa H e
    exact ⟨(hg.block H (blk_lt h1) (own_ty h.rb h1 (by decide))).trans h1, h2⟩
  fb := fun H e => by
    obtain ⟨h1, h2⟩ := h.fb H e
    refine ⟨(hg.block H (blk_lt h1) (Ne.symm h2)).trans h1, ?_⟩
    rcases hat with e2 | e2
    · rw [e2]; exact h2
    · rw [e2]
      intro e3
      injection e3 with e3
      have := blk_lt h1
      omega
end

set_option maxRecDepth 100000 in
set_option maxHeartbeats 8000000 in
theorem simplexScales_any (c : List (Int × Int)) (R : List (List (Int × Int))) (b : List (Int × Int)) (Ac AR Ab : Option Addr) (cc cR cb : Nat) (kx at_ : Int) (w : World) (hc : FactsAt w w.heap.size Ac c) (hR : MxAt w AR R) (hb : FactsAt w w.heap.size Ab b) (zR : AR = none → cR = 0) (zb : Ab = none → cb = 0) (hk0 : 0 ≤ kx) (hk1 : kx ≤ 255) (ha0 : 0 ≤ at_) (ha1 : at_ ≤ 255) :
    Calls Try.prog 4 #[.agg #[.slice Ac c.length cc, .slice AR R.length cR, .slice Ab b.length cb], .int .u8 kx, .int .u8 at_] w fun e w' => e = .returned (.bool true) ∧ Below w.heap.size w w' := by
  have KA := Lib.hid awake37_any
  have KL := Lib.hid (fun wx (h : Below w.heap.size w wx) => large_any c R b Ac AR Ab cc cR cb wx (factsAt_up hc h) (hR.up h) (factsAt_up hb h))
  have KS := Lib.hid (fun wx (h : Below w.heap.size w wx) => solve_any c R b Ac AR Ab cc cR cb wx (factsAt_up hc h) (hR.up h) (factsAt_up hb h))
  have HC := Lib.hid (fun wx (h : Below w.heap.size w wx) => factsAt_up hc h)
  have HB := Lib.hid (fun wx (h : Below w.heap.size w wx) => factsAt_up hb h)
  have HRm := Lib.hid (fun wx (h : Below w.heap.size w wx) => hR.up h)
  have SB := Lib.hid (fun wx (h : Below w.heap.size w wx) => facts_src (factsAt_up hb h) zb)
  have KI3 := Lib.hid (fun wx => (by have := is_any 5 3 wx (by decide); rw [errV_5] at this; exact this : Calls Try.prog 16 #[.iface 35 (.int .i64 5), .int .i64 3] wx fun e w' => e = .returned (.bool false) ∧ wx = w'))
  have KI0 := Lib.hid (fun wx => (by have := is_any 0 3 wx (by decide); rw [errV_0] at this; exact this : Calls Try.prog 16 #[.nilIface, .int .i64 3] wx fun e w' => e = .returned (.bool false) ∧ wx = w'))
  have KI5 := Lib.hid (fun wx => (by have := is_any 5 5 wx (by decide); rw [errV_5] at this; exact this : Calls Try.prog 16 #[.iface 35 (.int .i64 5), .int .i64 5] wx fun e w' => e = .returned (.bool true) ∧ wx = w'))
  obtain ⟨xs, hxs, hsR⟩ := mx_list hR zR
  have XS := Lib.hid (fun wx (h : Below w.heap.size w wx) => hxs.up h)
  have SR := Lib.hid (fun wx (h : Below w.heap.size w wx) => (⟨hsR.none, hsR.len, fun ad e j u hj => (h.cell (by obtain ⟨b0, o0, e0, hlt, _⟩ := hR.2 (by have := (List.getElem?_eq_some_iff.1 hj).1; have := hxs.len; omega); rw [e0] at e; cases e; unfold Addr.add; split <;> exact hlt)).trans (hsR.cells ad e j u hj), hsR.one⟩ : SrcAt wx AR R.length cR 1 xs))
  have HXL := Lib.hid hxs.len
  have lc := hc.len
  have lR := hR.1
  have lb := hb.len
  clear hc hR hb zR zb hxs hsR
  obtain ⟨inf, hi, iz0, iz1, iz2⟩ := info_parts infoC
  obtain ⟨inr, hir, jz0, jz1, jz2⟩ := info_parts infoR7
  go_enter Try.func4, Try.ntmps4
  go_wp2_with fail
  refine (KA.out _).mono ?_
  rintro e w3 ⟨rfl, hb3⟩
  have hP3 := (PrgAt.new w (.slice Ac c.length cc) (.slice AR R.length cR) (.slice Ab b.length cb) 25).up hb3
  have B3 : Below w.heap.size w w3 := ((Below.refl _ _).alloc (Nat.le_refl _) _).trans (hb3.mono (by simp))
  have z3 := B3.size
  obtain ⟨P, hPP⟩ : ∃ P, P = w.heap.size := ⟨_, rfl⟩
  rw [← hPP] at hP3
  have p0 := hP3.lt
  have p1 := hP3.c0
  have p2 := hP3.c1
  have p3 := hP3.c2
  clear hb3
  rw [← hPP]
  clear hPP
  go_wp2_with fail
  refine (KL.out w3 B3).mono ?_
  rintro e w4 ⟨⟨v, rfl, hv⟩, hb4⟩
  have hP4 := hP3.up hb4
  have B4 := B3.trans (hb4.mono z3)
  have z4 := B4.size
  clear p0 p1 p2 p3 hP3 hb4 B3 z3
  have p0 := hP4.lt
  have p1 := hP4.c0
  have p2 := hP4.c1
  have p3 := hP4.c2
  cases v
  case true =>
    clear hv
    go_wp2_with fail
    refine (KA.out _).mono ?_
    rintro e w5 ⟨rfl, hb5⟩
    have B5 := B4.trans (hb5.mono z4)
    go_wp2
    go_ret
    exact ⟨rfl, B5⟩
  case false =>
    have HS16 := Lib.hid (hv rfl)
    clear hv
    go_wp2_with fail
    refine (KS.out w4 B4).mono ?_
    rintro e w5 ⟨hs, hb5⟩
    have hP5 := hP4.up hb5
    have B5 := B4.trans (hb5.mono z4)
    have z5 := B5.size
    clear p0 p1 p2 p3 hP4 hb5 B4 z4
    rcases hs with ⟨hne, he⟩ | ⟨h0, ⟨cd, hf, he⟩ | ⟨T, hf, bx, bY, he, _, _⟩⟩
    · obtain rfl := he
      clear hne
      go_wp2
      go_ret
      exact ⟨rfl, by repeat (first | exact Below.refl _ _ | refine below_dN ?_ _ | refine Below.drew ?_ | refine Below.alloc ?_ (by first | omega | (simp; done) | (simp; omega)) _ | refine Below.setCell ?_ (by first | omega | (simp; done) | (simp; omega)) _ | refine below_step (by assumption) (by first | omega | (simp; done) | (simp; omega)) ?_)⟩
    · obtain rfl := he
      clear hf h0
      go_wp2
      go_ret
      exact ⟨rfl, by repeat (first | exact Below.refl _ _ | refine below_dN ?_ _ | refine Below.drew ?_ | refine Below.alloc ?_ (by first | omega | (simp; done) | (simp; omega)) _ | refine Below.setCell ?_ (by first | omega | (simp; done) | (simp; omega)) _ | refine below_step (by assumption) (by first | omega | (simp; done) | (simp; omega)) ?_)⟩
    · subst he
      have HO := Lib.hid (show OptV c.length R.length (fr37 R) (rl b) (rl c) T.z from fin_opt (fun i hi => by
        obtain ⟨_, _, h3, _, _, h6, _, h8⟩ := chk_zero h0
        have := (rl_num (prL_iff.1 h6 i (by omega))).1
        exact Rat.num_nonneg.1 (by rw [this]; exact h8 i (by omega))) hf)
      have H0 := Lib.hid h0
      clear h0 hf
      obtain ⟨tn, htn⟩ : ∃ tn, tn = T.z.num := ⟨_, rfl⟩
      obtain ⟨td, htd⟩ : ∃ td, td = (T.z.den : Int) := ⟨_, rfl⟩
      have HTN := Lib.hid htn
      have HTD := Lib.hid htd
      rw [← htn, ← htd]
      clear htn htd
      have hV6 : Own2 (w5.alloc (.cells #[.int .i64 tn, .int .i64 td] 29)) w5.heap.size tn td := Own2.new
      have B6 := B5.alloc z5 (.cells #[.int .i64 tn, .int .i64 td] 29)
      have hP6 := hP5.up ((Below.refl w5.heap.size w5).alloc (Nat.le_refl _) (.cells #[.int .i64 tn, .int .i64 td] 29))
      obtain ⟨F, hF⟩ : ∃ F, F = 1 + kx % 9 := ⟨_, rfl⟩
      obtain ⟨G, hG⟩ : ∃ G : Nat, F = (G : Int) := ⟨F.toNat, by omega⟩
      have HFG := Lib.hid hG
      have HG1 := Lib.hid (show 1 ≤ G by omega)
      have ew1 : IntKind.i64.wrap (kx % 9) = kx % 9 := IntWalk.i64_in _ (by omega)
      have ew2 : IntKind.i64.wrap (1 + kx % 9) = F := (IntWalk.i64_in _ (by omega)).trans hF.symm
      clear hF hG
      go_upto_region 7 with fail
      have hF7 : Own2 ((w5.alloc (.cells #[.int .i64 tn, .int .i64 td] 29)).alloc (.cells #[.int .i64 F, .int .i64 1] 29)) (w5.alloc (.cells #[.int .i64 tn, .int .i64 td] 29)).heap.size F 1 := Own2.new
      have hV7 := hV6.alloc (.cells #[.int .i64 F, .int .i64 1] 29)
      have B7 := B6.alloc B6.size (.cells #[.int .i64 F, .int .i64 1] 29)
      have hP7 := hP6.up ((Below.refl _ (w5.alloc (.cells #[.int .i64 tn, .int .i64 td] 29))).alloc (Nat.le_refl _) (.cells #[.int .i64 F, .int .i64 1] 29))
      rw [World.size_alloc] at hF7
      obtain ⟨w7, hw7⟩ : ∃ w7, w7 = (w5.alloc (.cells #[.int .i64 tn, .int .i64 td] 29)).alloc (.cells #[.int .i64 F, .int .i64 1] 29) := ⟨_, rfl⟩
      obtain ⟨FB, hFB⟩ : ∃ FB, FB = w5.heap.size + 1 := ⟨_, rfl⟩
      rw [← hw7, ← hFB] at hF7
      rw [← hw7] at hV7 B7 hP7 ⊢
      rw [← hFB]
      clear hFB
      obtain ⟨VB, hVB⟩ : ∃ VB, VB = w5.heap.size := ⟨_, rfl⟩
      rw [← hVB] at hV7 ⊢
      clear hVB hw7 hV6 B6 hP6 B5 z5 hP5 ew1 ew2
      have z7 := B7.size
      have T0 := Lib.hid (TwoR.start w7)
      have hb70 : Below w7.heap.size w7 ((w7.alloc (.cells #[] 29)).alloc (.cells #[] 29)) := ((Below.refl _ _).alloc (Nat.le_refl _) _).alloc (by simp) _
      have hP70 := hP7.up hb70
      have p0 := hP7.lt
      have p1 := hP7.c0
      have p2 := hP7.c1
      have p3 := hP7.c2
      go_wp2
      clear p0 p1 p2 p3 hP70
      go_loopw [12, 69] (fun v i wr => ∃ (k : Nat) (A' : Option Addr) (c' : Nat), k ≤ c.length ∧ i = .int .i64 k ∧ v = .slice A' k c' ∧ Hid (MulOK c F k) ∧ Hid (TwoR wr w7.heap.size (mll c F k) [] (.slice A' k c') (.slice (some ⟨w7.heap.size + 1, 0, none⟩) 0 0)) ∧ Below w7.heap.size w7 wr) (fun _ i _ => c.length - (intOf i).toNat)
      case atStart => exact ⟨0, _, _, by omega, rfl, rfl, Lib.hid (fun j hj => absurd hj (by omega)), T0, hb70⟩
      case round =>
       obtain ⟨k, A', c', hk, rfl, rfl, hmo, hT, hbel⟩ := hrel
       have hbz := hbel.size
       have Br := B7.trans (hbel.mono z7)
       have zr := Br.size
       have hFr := hF7.up hbel
       have hPr := hP7.up hbel
       have HLl := Lib.hid (mll_len (l := c) (F := F) (k := k))
       have HLs := Lib.hid (mll_succ (l := c) (F := F) (k := k))
       by_cases hlt : k < c.length
       · obtain ⟨b1, o1, ea, hb1, hc1⟩ := (HC.out w (Below.refl _ _)).at_ hlt
         subst ea
         have d1 := (Br.cell (p := ⟨b1, o1 + k * 2, none⟩) hb1).trans (hc1 k hlt).1
         have d2 := (Br.cell (p := ⟨b1, o1 + k * 2 + 1, none⟩) hb1).trans (hc1 k hlt).2
         have g1 : b1 < wr.heap.size := by omega
         have k0 : (0 : Int) ≤ (k : Int) := by omega
         have k1 : (k : Int) < (c.length : Int) := by omega
         have kk := fun W => mul_any (fv c k) (fx c k) F 1 W
         have HMS := Lib.hid (fun h => mulOK_succ (l := c) (F := F) (k := k) hmo.out h)
         obtain ⟨⟨p, q, code⟩, hx⟩ : ∃ r, mulF (fv c k) (fx c k) F 1 = r := ⟨_, rfl⟩
         rw [hx] at kk HLs HMS
         unfold RetFE at kk
         dsimp only at kk HLs HMS
         obtain ⟨ML, hML⟩ : ∃ ML, ML = mll c F k := ⟨_, rfl⟩
         rw [← hML] at hT HLl HLs
         obtain ⟨t0, t1, t2, _, _⟩ := id hFr
         clear hc1 hx hML
         by_cases hcode : code = 0
         case neg =>
           have HV := Lib.hid (errV_ne hcode)
           simp only [HV.out] at kk
           have K5 := Lib.hid kk
           clear kk hcode hT
           go_wp2_with fail
           refine (K5.out _).mono ?_
           rintro e w8 ⟨rfl, hb8⟩
           have hb18 := hbel.trans (((Below.refl _ _).alloc (Nat.le_refl _) _).trans (hb8.mono (by simp)) |>.mono hbz)
           have B8 := B7.trans (hb18.mono z7)
           have z8 := B8.size
           clear hb8
           go_wp2
           go_ret
           exact ⟨rfl, by repeat (first | exact Below.refl _ _ | refine below_dN ?_ _ | refine Below.drew ?_ | refine Below.alloc ?_ (by first | omega | (simp; done) | (simp; omega)) _ | refine Below.setCell ?_ (by first | omega | (simp; done) | (simp; omega)) _ | refine below_step (by assumption) (by first | omega | (simp; done) | (simp; omega)) ?_)⟩
         case pos =>
           subst hcode
           simp only [errV_0] at kk
           have K5 := Lib.hid kk
           have HMO := Lib.hid (HMS.out rfl)
           clear kk
           go_wp2_with fail
           refine (K5.out _).mono ?_
           rintro e w8 ⟨rfl, hb8⟩
           have hb0 : Below wr.heap.size wr w8 := ((Below.refl _ _).alloc (Nat.le_refl _) _).trans (hb8.mono (by simp))
           have T8 := Lib.hid (hT.out.up hb0)
           have hb18 := hbel.trans (hb0.mono hbz)
           have z18 := hb18.size
           clear hb8 hT hb0 t0 t1 t2
           go_wp2_with (at_builtin; refine wpList_push rfl _ _ 22 rfl w7.heap.size 29 inf (.agg #[.int .i64 0, .int .i64 0]) 2 16 undC hi iz0 iz1 iz2 rfl (by decide) (by decide) _ ML.length (fc ML) rfl ((T8.out.c.alloc _).alloc _) (w8.heap.size + 1) 29 [.int .i64 p, .int .i64 q] rfl rfl (heap_two2 _ _ _) (two_one rfl rfl) (by have := HLl.out; have := HS16.out; omega) (by first | omega | (simp; omega)) (B := w7.heap.size) (W := w7) ((hb18.alloc z18 _).alloc (by simp; omega) _) (Nat.le_refl _) ?_; intro v9 w9 ho9 hg9 hat9 hb9; have T9 := Lib.hid (TwoR.pushC ((T8.out.alloc _).alloc _) ho9 hg9 hat9); obtain ⟨A9, c9, rfl⟩ := own_shapeL ho9 (show ML.length + 1 = k + 1 by rw [HLl.out]); clear ho9 hg9 hat9)
           go_roundw
           case rel => exact ⟨k + 1, A9, c9, by omega, by go_num, rfl, HMO, by rw [HLs.out]; exact T9, hb9⟩
           case measure => simp [intOf]; omega
       · obtain rfl : c.length = k := by omega
         obtain ⟨wq, hwq⟩ : ∃ wq : World, wq = wr := ⟨_, rfl⟩
         rw [← hwq] at hT hbel hPr ⊢
         have HMc := hmo
         clear hwq hbz hFr HLs zr Br hmo
         have p0 := hPr.lt
         have p1 := hPr.c0
         have p2 := hPr.c1
         have p3 := hPr.c2
         obtain ⟨A1', hA1⟩ : ∃ A1', A1' = A' := ⟨_, rfl⟩
         obtain ⟨c1, hcc1⟩ : ∃ c1, c1 = c' := ⟨_, rfl⟩
         rw [← hA1, ← hcc1] at hT ⊢
         clear hA1 hcc1
         have HT1 := hT
         clear hT HLl
         go_wp2
         clear p0 p1 p2 p3 hPr
         have HbQ := hbel
         clear hbel
         go_loopw [13, 89] (fun v i wr => ∃ (k : Nat) (A' : Option Addr) (c' : Nat), k ≤ b.length ∧ i = .int .i64 k ∧ v = .slice A' k c' ∧ Hid (MulOK b F k) ∧ Hid (TwoR wr w7.heap.size (mll c F c.length) (mll b F k) (.slice A1' c.length c1) (.slice A' k c')) ∧ Below w7.heap.size w7 wr) (fun _ i _ => b.length - (intOf i).toNat)
         case atStart => exact ⟨0, _, _, by omega, rfl, rfl, Lib.hid (fun j hj => absurd hj (by omega)), HT1, HbQ⟩
         case round =>
          obtain ⟨k, A', c', hk, rfl, rfl, hmo, hT, hbel⟩ := hrel
          have hbz := hbel.size
          have Br := B7.trans (hbel.mono z7)
          have zr := Br.size
          have hFr := hF7.up hbel
          have hPr := hP7.up hbel
          have HLl := Lib.hid (mll_len (l := b) (F := F) (k := k))
          have HLs := Lib.hid (mll_succ (l := b) (F := F) (k := k))
          by_cases hlt : k < b.length
          · obtain ⟨b1, o1, ea, hb1, hc1⟩ := (HB.out w (Below.refl _ _)).at_ hlt
            subst ea
            have d1 := (Br.cell (p := ⟨b1, o1 + k * 2, none⟩) hb1).trans (hc1 k hlt).1
            have d2 := (Br.cell (p := ⟨b1, o1 + k * 2 + 1, none⟩) hb1).trans (hc1 k hlt).2
            have g1 : b1 < wr.heap.size := by omega
            have k0 : (0 : Int) ≤ (k : Int) := by omega
            have k1 : (k : Int) < (b.length : Int) := by omega
            have kk := fun W => mul_any (fv b k) (fx b k) F 1 W
            have HMS := Lib.hid (fun h => mulOK_succ (l := b) (F := F) (k := k) hmo.out h)
            obtain ⟨⟨p, q, code⟩, hx⟩ : ∃ r, mulF (fv b k) (fx b k) F 1 = r := ⟨_, rfl⟩
            rw [hx] at kk HLs HMS
            unfold RetFE at kk
            dsimp only at kk HLs HMS
            obtain ⟨ML, hML⟩ : ∃ ML, ML = mll b F k := ⟨_, rfl⟩
            rw [← hML] at hT HLl HLs
            obtain ⟨t0, t1, t2, _, _⟩ := id hFr
            clear hc1 hx hML
            by_cases hcode : code = 0
            case neg =>
              have HV := Lib.hid (errV_ne hcode)
              simp only [HV.out] at kk
              have K5 := Lib.hid kk
              clear kk hcode hT
              go_wp2_with fail
              refine (K5.out _).mono ?_
              rintro e w8 ⟨rfl, hb8⟩
              have hb18 := hbel.trans (((Below.refl _ _).alloc (Nat.le_refl _) _).trans (hb8.mono (by simp)) |>.mono hbz)
              have B8 := B7.trans (hb18.mono z7)
              have z8 := B8.size
              clear hb8
              go_wp2
              go_ret
              exact ⟨rfl, by repeat (first | exact Below.refl _ _ | refine below_dN ?_ _ | refine Below.drew ?_ | refine Below.alloc ?_ (by first | omega | (simp; done) | (simp; omega)) _ | refine Below.setCell ?_ (by first | omega | (simp; done) | (simp; omega)) _ | refine below_step (by assumption) (by first | omega | (simp; done) | (simp; omega)) ?_)⟩
            case pos =>
              subst hcode
              simp only [errV_0] at kk
              have K5 := Lib.hid kk
              have HMO := Lib.hid (HMS.out rfl)
              clear kk
              go_wp2_with fail
              refine (K5.out _).mono ?_
              rintro e w8 ⟨rfl, hb8⟩
              have hb0 : Below wr.heap.size wr w8 := ((Below.refl _ _).alloc (Nat.le_refl _) _).trans (hb8.mono (by simp))
              have T8 := Lib.hid (hT.out.up hb0)
              have hb18 := hbel.trans (hb0.mono hbz)
              have z18 := hb18.size
              clear hb8 hT hb0 t0 t1 t2
              go_wp2_with (at_builtin; refine wpList_push rfl _ _ 22 rfl w7.heap.size 29 inf (.agg #[.int .i64 0, .int .i64 0]) 2 16 undC hi iz0 iz1 iz2 rfl (by decide) (by decide) _ ML.length (fc ML) rfl ((T8.out.b.alloc _).alloc _) (w8.heap.size + 1) 29 [.int .i64 p, .int .i64 q] rfl rfl (heap_two2 _ _ _) (two_one rfl rfl) (by have := HLl.out; have := HS16.out; omega) (by first | omega | (simp; omega)) (B := w7.heap.size) (W := w7) ((hb18.alloc z18 _).alloc (by simp; omega) _) (Nat.le_refl _) ?_; intro v9 w9 ho9 hg9 hat9 hb9; have T9 := Lib.hid (TwoR.pushB ((T8.out.alloc _).alloc _) ho9 hg9 hat9); obtain ⟨A9, c9, rfl⟩ := own_shapeL ho9 (show ML.length + 1 = k + 1 by rw [HLl.out]); clear ho9 hg9 hat9)
              go_roundw
              case rel => exact ⟨k + 1, A9, c9, by omega, by go_num, rfl, HMO, by rw [HLs.out]; exact T9, hb9⟩
              case measure => simp [intOf]; omega
          · obtain rfl : b.length = k := by omega
            obtain ⟨w8, hw8⟩ : ∃ w8 : World, w8 = wr := ⟨_, rfl⟩
            rw [← hw8] at hT hbel ⊢
            clear hw8 hbz hFr hPr HLs zr Br
            have HMb := hmo
            obtain ⟨Ax, cx, e1, _, F1⟩ := own_fracs hT.out.c (by rw [mll_len]; have := HS16.out; omega)
            obtain ⟨Ay, cy, e2, _, F2⟩ := own_fracs hT.out.b (by rw [mll_len]; have := HS16.out; omega)
            injection e1 with e11 e12 e13
            injection e2 with e21 e22 e23
            subst e11 e21
            have HF1 := Lib.hid F1
            have HF2 := Lib.hid F2
            clear e12 e13 e22 e23 F1 F2 hT hmo
            have B8 := B7.trans (hbel.mono z7)
            have z8 := B8.size
            have hP8 := hP7.up hbel
            have hV8 := hV7.up hbel
            have hF8 := hF7.up hbel
            clear hbel B7 z7 hP7 hV7 hF7 HLl
            have kk := fun W => mul_any tn td F 1 W
            obtain ⟨⟨wn, wd, code⟩, hx⟩ : ∃ r, mulF tn td F 1 = r := ⟨_, rfl⟩
            have HX := Lib.hid hx
            rw [hx] at kk
            unfold RetFE at kk
            dsimp only at kk
            obtain ⟨t0, t1, t2, _, _⟩ := id hF8
            obtain ⟨y0, y1, y2, _, _⟩ := id hV8
            clear hx
            by_cases hcode : code = 0
            case neg =>
              have HV := Lib.hid (errV_ne hcode)
              simp only [HV.out] at kk
              have K5 := Lib.hid kk
              clear kk hcode
              go_wp2_with fail
              refine (K5.out _).mono ?_
              rintro e w9 ⟨rfl, hb9⟩
              have B9 := B8.trans (hb9.mono z8)
              have z9 := B9.size
              clear hb9
              go_wp2
              go_ret
              exact ⟨rfl, by repeat (first | exact Below.refl _ _ | refine below_dN ?_ _ | refine Below.drew ?_ | refine Below.alloc ?_ (by first | omega | (simp; done) | (simp; omega)) _ | refine Below.setCell ?_ (by first | omega | (simp; done) | (simp; omega)) _ | refine below_step (by assumption) (by first | omega | (simp; done) | (simp; omega)) ?_)⟩
            case pos =>
              subst hcode
              simp only [errV_0] at kk
              have K5 := Lib.hid kk
              clear kk
              go_wp2_with fail
              refine (K5.out _).mono ?_
              rintro e w9 ⟨rfl, hb9⟩
              have hb19 := hb9.alloc hb9.size (.cells #[.int .i64 wn, .int .i64 wd] 29)
              have hW9 : Own2 (w9.alloc (.cells #[.int .i64 wn, .int .i64 wd] 29)) w9.heap.size wn wd := Own2.new
              have hP9 := hP8.up hb19
              have hV9 := hV8.up hb19
              have B9 := B8.trans (hb19.mono z8)
              have G1 := Lib.hid (factsAt_up HF1.out hb19)
              have G2 := Lib.hid (factsAt_up HF2.out hb19)
              clear hb9 hb19 t0 t1 t2 y0 y1 y2 hP8 hV8 hF8 B8 z8 HF1 HF2
              go_upto_region 27 with fail
              obtain ⟨wA, hwA⟩ : ∃ wA, wA = w9.alloc (.cells #[.int .i64 wn, .int .i64 wd] 29) := ⟨_, rfl⟩
              obtain ⟨WB, hWB⟩ : ∃ WB, WB = w9.heap.size := ⟨_, rfl⟩
              rw [← hwA, ← hWB] at hW9 ⊢
              rw [← hwA] at hP9 hV9 B9 G1 G2
              clear hwA hWB
              have z9 := B9.size
              have HVal := Lib.hid (show (mulF tn td F 1).2.2 = 0 ∧ (mulF tn td F 1).1 = wn ∧ (mulF tn td F 1).2.1 = wd by rw [HX.out]; exact ⟨rfl, rfl, rfl⟩)
              have KS1 := Lib.hid (fun wx (h : Below wA.heap.size wA wx) => ((by have h1 := solve_any (mll c F c.length) R b A1' AR Ab c1 cR cb wx (factsAt_up G1.out h) (HRm.out _ (B9.trans (h.mono z9))) (HB.out _ (B9.trans (h.mono z9))); rw [mll_len] at h1; exact h1.mono fun e w' ⟨h2, h3⟩ => ⟨(by rw [HFG.out] at h2 HMc HVal; rw [HTN.out, HTD.out] at HVal; have h4 := opt_c HG1.out H0.out HO.out HMc.out HVal.out.1 h2; rw [HVal.out.2.1, HVal.out.2.2] at h4; exact h4), h3⟩) : Calls Try.prog 15 #[.slice A1' c.length c1, .slice AR R.length cR, .slice Ab b.length cb] wx fun e w' => (∃ p q cd x y, e = .returned (.tuple #[.agg #[.int .i64 p, .int .i64 q], x, y, errV cd]) ∧ Val2 wn wd p q cd) ∧ Below wx.heap.size wx w'))
              have KS2 := Lib.hid (fun wx (h : Below wA.heap.size wA wx) => ((by have h1 := solve_any c R (mll b F b.length) Ac AR A' cc cR c' wx (HC.out _ (B9.trans (h.mono z9))) (HRm.out _ (B9.trans (h.mono z9))) (factsAt_up G2.out h); rw [mll_len] at h1; exact h1.mono fun e w' ⟨h2, h3⟩ => ⟨(by rw [HFG.out] at h2 HMb HVal; rw [HTN.out, HTD.out] at HVal; have h4 := opt_b HG1.out H0.out HO.out HMb.out HVal.out.1 h2; rw [HVal.out.2.1, HVal.out.2.2] at h4; exact h4), h3⟩) : Calls Try.prog 15 #[.slice Ac c.length cc, .slice AR R.length cR, .slice A' b.length c'] wx fun e w' => (∃ p q cd x y, e = .returned (.tuple #[.agg #[.int .i64 p, .int .i64 q], x, y, errV cd]) ∧ Val2 wn wd p q cd) ∧ Below wx.heap.size wx w'))
              have p0 := hP9.lt
              have p1 := hP9.c0
              have p2 := hP9.c1
              have p3 := hP9.c2
              go_wp2_with fail
              refine (KS1.out _ (Below.refl _ _)).mono ?_
              rintro e w10 ⟨⟨q1, q2, cd1, xx1, yy1, rfl, hv1⟩, hb10⟩
              have HV1 := Lib.hid hv1
              have X1 : Own2 (w10.alloc (.cells #[.int .i64 q1, .int .i64 q2] 29)) w10.heap.size q1 q2 := Own2.new
              have hbA := hb10.alloc hb10.size (.cells #[.int .i64 q1, .int .i64 q2] 29)
              have hPA := hP9.up hbA
              clear hb10 hv1 p0 p1 p2 p3
              have p0 := hPA.lt
              have p1 := hPA.c0
              have p2 := hPA.c1
              have p3 := hPA.c2
              go_upto_region 28 with fail
              obtain ⟨wB, hwB⟩ : ∃ wB, wB = w10.alloc (.cells #[.int .i64 q1, .int .i64 q2] 29) := ⟨_, rfl⟩
              obtain ⟨X1B, hX1B⟩ : ∃ X1B, X1B = w10.heap.size := ⟨_, rfl⟩
              rw [← hwB, ← hX1B] at X1 ⊢
              rw [← hwB] at hPA hbA p0 p1 p2 p3
              clear hwB hX1B
              go_wp2_with fail
              refine (KS2.out _ hbA).mono ?_
              rintro e w11 ⟨⟨r1, r2, cd2, xx2, yy2, rfl, hv2⟩, hb11⟩
              have HV2 := Lib.hid hv2
              have X2 : Own2 (w11.alloc (.cells #[.int .i64 r1, .int .i64 r2] 29)) w11.heap.size r1 r2 := Own2.new
              have hbB := hb11.alloc hb11.size (.cells #[.int .i64 r1, .int .i64 r2] 29)
              have hbC := hbA.trans (hbB.mono hbA.size)
              have hPB := hP9.up hbC
              have hVB := hV9.up hbC
              have hWB := hW9.up hbC
              have X1' := X1.up hbB
              have BB := B9.trans (hbC.mono z9)
              clear hb11 hv2 p0 p1 p2 p3 hbB hbC hPA hbA X1 hP9 hV9 hW9
              go_upto_region 29 with fail
              obtain ⟨wC, hwC⟩ : ∃ wC, wC = w11.alloc (.cells #[.int .i64 r1, .int .i64 r2] 29) := ⟨_, rfl⟩
              obtain ⟨X2B, hX2B⟩ : ∃ X2B, X2B = w11.heap.size := ⟨_, rfl⟩
              rw [← hwC, ← hX2B] at X2 ⊢
              rw [← hwC] at hPB hVB hWB X1' BB
              clear hwC hX2B KS1 KS2 G1 G2 HMc HMb B9 z9
              have zB := BB.size
              obtain ⟨t0, t1, t2, _, _⟩ := id hWB
              obtain ⟨y0, y1, y2, _, _⟩ := id X1'
              obtain ⟨s0, s1, s2, _, _⟩ := id X2
              go_cut [159] (fun v wx => v = .bool false ∧ Below wC.heap.size wC wx)
              case first =>
                rcases HV1.out with hA | ⟨hA, hA1, hA2⟩ <;> rcases HV2.out with hB | ⟨hB, hB1, hB2⟩
                · subst hA hB
                  simp only [errV_5]
                  go_wp2_with fail
                  refine (KI3.out _).mono ?_
                  rintro e _ ⟨rfl, rfl⟩
                  go_wp2_with fail
                  refine (KI3.out _).mono ?_
                  rintro e _ ⟨rfl, rfl⟩
                  go_wp2
                  go_meet
                  case rel => exact ⟨rfl, Below.refl _ _⟩
                · subst hA hB hB1 hB2
                  simp only [errV_5, errV_0]
                  go_wp2_with fail
                  refine (KI3.out _).mono ?_
                  rintro e _ ⟨rfl, rfl⟩
                  go_wp2_with fail
                  refine (KI0.out _).mono ?_
                  rintro e _ ⟨rfl, rfl⟩
                  go_wp2
                  go_meet
                  case rel => exact ⟨rfl, Below.refl _ _⟩
                · subst hA hB hA1 hA2
                  simp only [errV_5, errV_0]
                  go_wp2_with fail
                  refine (KI0.out _).mono ?_
                  rintro e _ ⟨rfl, rfl⟩
                  go_wp2_with fail
                  refine (KI3.out _).mono ?_
                  rintro e _ ⟨rfl, rfl⟩
                  go_wp2
                  go_meet
                  case rel => exact ⟨rfl, Below.refl _ _⟩
                · subst hA hB hA1 hA2 hB1 hB2
                  simp only [errV_0]
                  go_wp2_with fail
                  refine (KI0.out _).mono ?_
                  rintro e _ ⟨rfl, rfl⟩
                  go_wp2_with fail
                  refine (KI0.out _).mono ?_
                  rintro e _ ⟨rfl, rfl⟩
                  go_wp2
                  go_meet
                  case rel => exact ⟨rfl, Below.refl _ _⟩
              case rest =>
                obtain ⟨rfl, hbc⟩ := hcut
                obtain ⟨w9, hw9⟩ : ∃ w9 : World, w9 = wc := ⟨_, rfl⟩
                rw [← hw9] at hbc ⊢
                have hP9 := hPB.up hbc
                have hV9 := hVB.up hbc
                have B9 := BB.trans (hbc.mono zB)
                have z9 := B9.size
                clear hw9 hbc t0 t1 t2 y0 y1 y2 s0 s1 s2 hPB hVB hWB X1' X2 BB zB HV1 HV2
                have p0 := hP9.lt
                have p1 := hP9.c0
                have p2 := hP9.c1
                have p3 := hP9.c2
                by_cases hm0 : R.length = 0
                · have e1 : ((R.length : Int) == 0) = true := by rw [hm0]; rfl
                  clear hm0
                  go_wp2
                  go_ret
                  exact ⟨rfl, B9⟩
                have e1 : ((R.length : Int) == 0) = false := by simp; intro h; exact hm0 (List.length_eq_zero_iff.2 h)
                obtain ⟨i0, hi0⟩ : ∃ i0 : Nat, at_ % (R.length : Int) = (i0 : Int) := ⟨(at_ % (R.length : Int)).toNat, by have := Int.emod_nonneg at_ (show (R.length : Int) ≠ 0 by omega); omega⟩
                have hil : i0 < R.length := by have := Int.emod_lt_of_pos at_ (show (0 : Int) < (R.length : Int) by omega); omega
                have ew : IntKind.i64.wrap at_ = at_ := IntWalk.i64_in _ (by omega)
                have hnz : (R.length : Int) ≠ 0 := by omega
                have hrem : at_.tmod (R.length : Int) = at_ % (R.length : Int) := IntWalk.rem_in _ _ ha0
                clear hm0
                go_upto_region 33 with fail
                clear e1
                go_upto_region 34 with fail
                clear hi0 hrem hnz ew p0 p1 p2 p3
                obtain ⟨b1, o1, ea, hb1, hc1⟩ := (HRm.out _ B9).at_ hil
                subst ea
                obtain ⟨S, cS, d1, hS0, hS⟩ := hc1 i0 hil
                have hlt2 : i0 < b.length := by have := (chk_zero H0.out).2.2.1; omega
                obtain ⟨b2, o2, eb, hb2, hc2⟩ := (HB.out _ B9).at_ hlt2
                subst eb
                have d3 := (hc2 i0 hlt2).1
                have d4 := (hc2 i0 hlt2).2
                have i0' : (0 : Int) ≤ (i0 : Int) := by omega
                have i1' : (i0 : Int) < (R.length : Int) := by omega
                have i2' : (i0 : Int) < (b.length : Int) := by omega
                obtain ⟨nS, hnS⟩ : ∃ nS, (mr R i0).length = nS := ⟨_, rfl⟩
                rw [hnS] at d1
                have HNS := Lib.hid hnS
                have HS0 := Lib.hid hS0
                have HFS := Lib.hid hS
                have HIL := Lib.hid hil
                obtain ⟨XA, hXA⟩ : ∃ XA, XA = xs ++ [.slice S nS cS] := ⟨_, rfl⟩
                obtain ⟨LM, hLM⟩ : ∃ LM, LM = b ++ [(fv b i0, fx b i0)] := ⟨_, rfl⟩
                obtain ⟨Ra, hRa⟩ : ∃ Ra, Ra = R ++ [mr R i0] := ⟨_, rfl⟩
                have HXA := Lib.hid hXA
                have HLM := Lib.hid hLM
                have HRa := Lib.hid hRa
                have HLa := Lib.hid (show Ra.length = R.length + 1 by rw [hRa, List.length_append]; rfl)
                have HXAl := Lib.hid (show XA.length = Ra.length by rw [hXA, List.length_append, HXL.out, HLa.out]; rfl)
                have HLLM := Lib.hid (show LM.length ≤ 1000 by have := HS16.out; rw [hLM, List.length_append]; show b.length + 1 ≤ 1000; omega)
                have HSls := Lib.hid (fun wx (h : Below w9.heap.size w9 wx) => (by
                  rw [HXA.out, HRa.out]
                  have h1 := (XS.out _ (B9.trans (h.mono z9))).push (o := mr R i0) HS0.out (factsAt_up HFS.out h)
                  rw [HNS.out] at h1
                  exact h1 : Sls wx Ra XA))
                have KS3 := Lib.hid (fun A1 c1 A2 c2 wx (h : Below w9.heap.size w9 wx) (hM : MxAt wx A1 Ra) (hF : FactsAt wx wx.heap.size A2 LM) => ((solve_any c Ra LM Ac A1 A2 cc c1 c2 wx (HC.out _ (B9.trans (h.mono z9))) hM hF).mono fun e w' ⟨h2, h3⟩ => ⟨(by rw [HRa.out, HLM.out] at h2; rw [HTN.out, HTD.out]; exact opt_more HIL.out (by have := HS16.out; omega) H0.out HO.out h2), h3⟩ : Calls Try.prog 15 #[.slice Ac c.length cc, .slice A1 Ra.length c1, .slice A2 LM.length c2] wx fun e w' => (∃ p q cd x y, e = .returned (.tuple #[.agg #[.int .i64 p, .int .i64 q], x, y, errV cd]) ∧ Val2 tn td p q cd) ∧ Below wx.heap.size wx w'))
                clear hXA hLM hRa hnS hS0 hS hc1 hc2 hil hlt2
                have p0 := hP9.lt
                have p1 := hP9.c0
                have p2 := hP9.c1
                have p3 := hP9.c2
                go_cut [32, 33] (fun va vb wx => ∃ A1 c1 A2 c2, va = .slice A1 Ra.length c1 ∧ vb = .slice A2 LM.length c2 ∧ Hid (MxAt wx A1 Ra) ∧ Hid (FactsAt wx wx.heap.size A2 LM) ∧ Below w9.heap.size w9 wx)
                case first =>
                  go_wp2_with fail
                  refine wp_region_G 21 (fun w' => ∀ b o, w'.cell? ⟨b, o, none⟩ = if b < w9.heap.size then w9.cell? ⟨b, o, none⟩ else hidC w' b o) (by kernel_rfl) (cif (B := w9.heap.size) (W := w9) (Below.refl _ _).drew) ?_
                  apply merge11 (F := fun (wC : World) (X0 : Nat) (va3 : Value) (X9 : Nat) (A10 : Option Addr) (c10 : Nat) (X11 : Nat) (vb14 : Value) (X20 : Nat) (A21 : Option Addr) (c21 : Nat) => (DSt w9 (.slice S nS cS) (fv b i0) (fx b i0) wC (.slice A10 XA.length c10) XA (.slice A21 LM.length c21) LM (some X9) (some X20)))
                  · intro nd0_3_9_10_11_14_20_21
                    apply merge9 (F := fun (wC : World) (X0 : Nat) (va3 : Value) (X9 : Nat) (A10 : Option Addr) (c10 : Nat) (X11 : Nat) (vb14 : Value) (X20 : Nat) => (DSt w9 (.slice S nS cS) (fv b i0) (fx b i0) wC (.slice A10 XA.length c10) XA vb14 b (some X9) (some X20)))
                    · intro nd0_3_9_10_11_14_20
                      apply merge8 (F := fun (wC : World) (X0 : Nat) (va3 : Value) (X9 : Nat) (A10 : Option Addr) (c10 : Nat) (X11 : Nat) (X20 : Nat) => (DSt w9 (.slice S nS cS) (fv b i0) (fx b i0) wC (.slice A10 XA.length c10) XA (.slice (some ⟨X11, 0, none⟩) 0 0) [] (some X9) (some X20)))
                      · intro nd0_3_9_10_11_20
                        apply merge8 (F := fun (wC : World) (X0 : Nat) (va3 : Value) (X9 : Nat) (A10 : Option Addr) (c10 : Nat) (X11 : Nat) (vb14 : Value) => (DSt w9 (.slice S nS cS) (fv b i0) (fx b i0) wC (.slice A10 XA.length c10) XA vb14 b (some X9) none))
                        · intro nd0_3_9_10_11_14
                          apply merge6 (F := fun (wC : World) (X0 : Nat) (va3 : Value) (X9 : Nat) (X11 : Nat) (X20 : Nat) => (DSt w9 (.slice S nS cS) (fv b i0) (fx b i0) wC va3 xs (.slice (some ⟨X11, 0, none⟩) 0 0) [] (some X9) (some X20)))
                          · intro nd0_3_9_11_20
                            apply merge7 (F := fun (wC : World) (X0 : Nat) (va3 : Value) (X9 : Nat) (A10 : Option Addr) (c10 : Nat) (X20 : Nat) => (DSt w9 (.slice S nS cS) (fv b i0) (fx b i0) wC (.slice A10 XA.length c10) XA (.slice none 0 0) [] (some X9) (some X20)))
                            · intro nd0_3_9_10_20
                              apply merge7 (F := fun (wC : World) (X0 : Nat) (va3 : Value) (X9 : Nat) (A10 : Option Addr) (c10 : Nat) (X11 : Nat) => (DSt w9 (.slice S nS cS) (fv b i0) (fx b i0) wC (.slice A10 XA.length c10) XA (.slice (some ⟨X11, 0, none⟩) 0 0) [] (some X9) none))
                              · intro nd0_3_9_10_11
                                apply merge5 (F := fun (wC : World) (X0 : Nat) (X9 : Nat) (X11 : Nat) (X20 : Nat) => (DSt w9 (.slice S nS cS) (fv b i0) (fx b i0) wC (.slice (some ⟨X0, 0, none⟩) 0 0) [] (.slice (some ⟨X11, 0, none⟩) 0 0) [] (some X9) (some X20)))
                                · intro nd0_9_11_20
                                  apply merge5 (F := fun (wC : World) (X0 : Nat) (va3 : Value) (X11 : Nat) (X20 : Nat) => (DSt w9 (.slice S nS cS) (fv b i0) (fx b i0) wC va3 xs (.slice (some ⟨X11, 0, none⟩) 0 0) [] none (some X20)))
                                  · intro nd0_3_11_20
                                    apply merge5 (F := fun (wC : World) (X0 : Nat) (va3 : Value) (X9 : Nat) (X20 : Nat) => (DSt w9 (.slice S nS cS) (fv b i0) (fx b i0) wC va3 xs (.slice none 0 0) [] (some X9) (some X20)))
                                    · intro nd0_3_9_20
                                      apply merge5 (F := fun (wC : World) (X0 : Nat) (va3 : Value) (X9 : Nat) (X11 : Nat) => (DSt w9 (.slice S nS cS) (fv b i0) (fx b i0) wC va3 xs (.slice (some ⟨X11, 0, none⟩) 0 0) [] (some X9) none))
                                      · intro nd0_3_9_11
                                        apply merge6 (F := fun (wC : World) (X0 : Nat) (va3 : Value) (X9 : Nat) (A10 : Option Addr) (c10 : Nat) => (DSt w9 (.slice S nS cS) (fv b i0) (fx b i0) wC (.slice A10 XA.length c10) XA (.slice none 0 0) [] (some X9) none))
                                        · intro nd0_3_9_10
                                          apply merge4 (F := fun (wC : World) (X9 : Nat) (X11 : Nat) (X20 : Nat) => (DSt w9 (.slice S nS cS) (fv b i0) (fx b i0) wC (.slice none 0 0) [] (.slice (some ⟨X11, 0, none⟩) 0 0) [] (some X9) (some X20)))
                                          · intro nd9_11_20
                                            apply merge4 (F := fun (wC : World) (X0 : Nat) (X11 : Nat) (X20 : Nat) => (DSt w9 (.slice S nS cS) (fv b i0) (fx b i0) wC (.slice (some ⟨X0, 0, none⟩) 0 0) [] (.slice (some ⟨X11, 0, none⟩) 0 0) [] none (some X20)))
                                            · intro nd0_11_20
                                              apply merge4 (F := fun (wC : World) (X0 : Nat) (X9 : Nat) (X20 : Nat) => (DSt w9 (.slice S nS cS) (fv b i0) (fx b i0) wC (.slice (some ⟨X0, 0, none⟩) 0 0) [] (.slice none 0 0) [] (some X9) (some X20)))
                                              · intro nd0_9_20
                                                apply merge4 (F := fun (wC : World) (X0 : Nat) (X9 : Nat) (X11 : Nat) => (DSt w9 (.slice S nS cS) (fv b i0) (fx b i0) wC (.slice (some ⟨X0, 0, none⟩) 0 0) [] (.slice (some ⟨X11, 0, none⟩) 0 0) [] (some X9) none))
                                                · intro nd0_9_11
                                                  apply merge4 (F := fun (wC : World) (X0 : Nat) (va3 : Value) (X20 : Nat) => (DSt w9 (.slice S nS cS) (fv b i0) (fx b i0) wC va3 xs (.slice none 0 0) [] none (some X20)))
                                                  · intro nd0_3_20
                                                    apply merge4 (F := fun (wC : World) (X0 : Nat) (va3 : Value) (X11 : Nat) => (DSt w9 (.slice S nS cS) (fv b i0) (fx b i0) wC va3 xs (.slice (some ⟨X11, 0, none⟩) 0 0) [] none none))
                                                    · intro nd0_3_11
                                                      apply merge4 (F := fun (wC : World) (X0 : Nat) (va3 : Value) (X9 : Nat) => (DSt w9 (.slice S nS cS) (fv b i0) (fx b i0) wC va3 xs (.slice none 0 0) [] (some X9) none))
                                                      · intro nd0_3_9
                                                        apply merge3 (F := fun (wC : World) (X11 : Nat) (X20 : Nat) => (DSt w9 (.slice S nS cS) (fv b i0) (fx b i0) wC (.slice none 0 0) [] (.slice (some ⟨X11, 0, none⟩) 0 0) [] none (some X20)))
                                                        · intro nd11_20
                                                          apply merge3 (F := fun (wC : World) (X9 : Nat) (X20 : Nat) => (DSt w9 (.slice S nS cS) (fv b i0) (fx b i0) wC (.slice none 0 0) [] (.slice none 0 0) [] (some X9) (some X20)))
                                                          · intro nd9_20
                                                            apply merge3 (F := fun (wC : World) (X9 : Nat) (X11 : Nat) => (DSt w9 (.slice S nS cS) (fv b i0) (fx b i0) wC (.slice none 0 0) [] (.slice (some ⟨X11, 0, none⟩) 0 0) [] (some X9) none))
                                                            · intro nd9_11
                                                              apply merge3 (F := fun (wC : World) (X0 : Nat) (X20 : Nat) => (DSt w9 (.slice S nS cS) (fv b i0) (fx b i0) wC (.slice (some ⟨X0, 0, none⟩) 0 0) [] (.slice none 0 0) [] none (some X20)))
                                                              · intro nd0_20
                                                                apply merge3 (F := fun (wC : World) (X0 : Nat) (X11 : Nat) => (DSt w9 (.slice S nS cS) (fv b i0) (fx b i0) wC (.slice (some ⟨X0, 0, none⟩) 0 0) [] (.slice (some ⟨X11, 0, none⟩) 0 0) [] none none))
                                                                · intro nd0_11
                                                                  apply merge3 (F := fun (wC : World) (X0 : Nat) (X9 : Nat) => (DSt w9 (.slice S nS cS) (fv b i0) (fx b i0) wC (.slice (some ⟨X0, 0, none⟩) 0 0) [] (.slice none 0 0) [] (some X9) none))
                                                                  · intro nd0_9
                                                                    apply merge3 (F := fun (wC : World) (X0 : Nat) (va3 : Value) => (DSt w9 (.slice S nS cS) (fv b i0) (fx b i0) wC va3 xs (.slice none 0 0) [] none none))
                                                                    · intro nd0_3
                                                                      apply merge2 (F := fun (wC : World) (X20 : Nat) => (DSt w9 (.slice S nS cS) (fv b i0) (fx b i0) wC (.slice none 0 0) [] (.slice none 0 0) [] none (some X20)))
                                                                      · intro nd20
                                                                        apply merge2 (F := fun (wC : World) (X11 : Nat) => (DSt w9 (.slice S nS cS) (fv b i0) (fx b i0) wC (.slice none 0 0) [] (.slice (some ⟨X11, 0, none⟩) 0 0) [] none none))
                                                                        · intro nd11
                                                                          apply merge2 (F := fun (wC : World) (X9 : Nat) => (DSt w9 (.slice S nS cS) (fv b i0) (fx b i0) wC (.slice none 0 0) [] (.slice none 0 0) [] (some X9) none))
                                                                          · intro nd9
                                                                            apply merge2 (F := fun (wC : World) (X0 : Nat) => (DSt w9 (.slice S nS cS) (fv b i0) (fx b i0) wC (.slice (some ⟨X0, 0, none⟩) 0 0) [] (.slice none 0 0) [] none none))
                                                                            · intro nd0
                                                                              intro g0
                                                                              have DT := Lib.hid (DSt.start w9 (.slice S nS cS) (fv b i0) (fx b i0))
                                                                              generalize World.drew w9 = wC at DT g0 ⊢
                                                                              refine wpAnyG_any (i := 1) (v := ?_) rfl g0 (by kernel_rfl) (by kernel_rfl) (by kernel_rfl) rfl (fun _ _ _ h => h) (Or.inl ⟨by rfl, ?_⟩) ?_; rotate_left; (intro wS hSw; (try dsimp only at hSw); first | (go_simp; done) | (go_simp; with_reducible rfl) | (simp [go_sem, ↓IntWalk.iteOmega, *]; done) | (simp [go_sem, ↓IntWalk.iteOmega, *]; with_reducible rfl)); (intro g1); clear g0; (try simp only [Act.put, List.setIfInBounds_toArray, List.set_cons_zero, List.set_cons_succ, List.getElem_toArray, List.getElem_cons_succ, List.getElem_cons_zero])
                                                                              refine wpAnyG_take (i := 2) (v := ?_) rfl g1 (by kernel_rfl) (by kernel_rfl) (by kernel_rfl) rfl (by kernel_rfl) (fun _ _ _ h => h) (Or.inl ⟨by rfl, ?_⟩) ?_; rotate_left; (intro wS hSw; (try dsimp only at hSw); first | (go_simp; done) | (go_simp; with_reducible rfl) | (simp [go_sem, ↓IntWalk.iteOmega, *]; done) | (simp [go_sem, ↓IntWalk.iteOmega, *]; with_reducible rfl)); (intro g2); clear g1; (try simp only [Act.put, List.setIfInBounds_toArray, List.set_cons_zero, List.set_cons_succ, List.getElem_toArray, List.getElem_cons_succ, List.getElem_cons_zero])
                                                                              refine wpAnyG_any (i := 4) (v := ?_) rfl g2 (by kernel_rfl) (by kernel_rfl) (by kernel_rfl) rfl (fun _ _ _ h => h) (Or.inl ⟨by rfl, ?_⟩) ?_; rotate_left; (intro wS hSw; (try dsimp only at hSw); first | (go_simp; done) | (go_simp; with_reducible rfl) | (simp [go_sem, ↓IntWalk.iteOmega, *]; done) | (simp [go_sem, ↓IntWalk.iteOmega, *]; with_reducible rfl)); (intro g3); clear g2; (try simp only [Act.put, List.setIfInBounds_toArray, List.set_cons_zero, List.set_cons_succ, List.getElem_toArray, List.getElem_cons_succ, List.getElem_cons_zero])
                                                                              refine wpAnyG_take (i := 5) (v := ?_) rfl g3 (by kernel_rfl) (by kernel_rfl) (by kernel_rfl) rfl (by kernel_rfl) (fun _ _ _ h => h) (Or.inl ⟨by rfl, ?_⟩) ?_; rotate_left; (intro wS hSw; (try dsimp only at hSw); first | (go_simp; done) | (go_simp; with_reducible rfl) | (simp [go_sem, ↓IntWalk.iteOmega, *]; done) | (simp [go_sem, ↓IntWalk.iteOmega, *]; with_reducible rfl)); (intro g4); clear g3; (try simp only [Act.put, List.setIfInBounds_toArray, List.set_cons_zero, List.set_cons_succ, List.getElem_toArray, List.getElem_cons_succ, List.getElem_cons_zero])
                                                                              refine wpAnyG_any (i := 6) (v := ?_) rfl g4 (by kernel_rfl) (by kernel_rfl) (by kernel_rfl) rfl (fun _ _ _ h => h) (Or.inl ⟨by rfl, ?_⟩) ?_; rotate_left; (intro wS hSw; (try dsimp only at hSw); first | (go_simp; done) | (go_simp; with_reducible rfl) | (simp [go_sem, ↓IntWalk.iteOmega, *]; done) | (simp [go_sem, ↓IntWalk.iteOmega, *]; with_reducible rfl)); (intro g5); clear g4; (try simp only [Act.put, List.setIfInBounds_toArray, List.set_cons_zero, List.set_cons_succ, List.getElem_toArray, List.getElem_cons_succ, List.getElem_cons_zero])
                                                                              refine wpAnyG_any (i := 7) (v := ?_) rfl g5 (by kernel_rfl) (by kernel_rfl) (by kernel_rfl) rfl (fun _ _ _ h => h) (Or.inl ⟨by rfl, ?_⟩) ?_; rotate_left; (intro wS hSw; (try dsimp only at hSw); first | (go_simp; done) | (go_simp; with_reducible rfl) | (simp [go_sem, ↓IntWalk.iteOmega, *]; done) | (simp [go_sem, ↓IntWalk.iteOmega, *]; with_reducible rfl)); (intro g6); clear g5; (try simp only [Act.put, List.setIfInBounds_toArray, List.set_cons_zero, List.set_cons_succ, List.getElem_toArray, List.getElem_cons_succ, List.getElem_cons_zero])
                                                                              refine wpAnyG_take (i := 8) (v := ?_) rfl g6 (by kernel_rfl) (by kernel_rfl) (by kernel_rfl) rfl (by kernel_rfl) (fun _ _ _ h => h) (Or.inl ⟨by rfl, ?_⟩) ?_; rotate_left; (intro wS hSw; (try dsimp only at hSw); first | (go_simp; done) | (go_simp; with_reducible rfl) | (simp [go_sem, ↓IntWalk.iteOmega, *]; done) | (simp [go_sem, ↓IntWalk.iteOmega, *]; with_reducible rfl)); (intro g7); clear g6; (try simp only [Act.put, List.setIfInBounds_toArray, List.set_cons_zero, List.set_cons_succ, List.getElem_toArray, List.getElem_cons_succ, List.getElem_cons_zero])
                                                                              refine wpAnyG_any (i := 12) (v := ?_) rfl g7 (by kernel_rfl) (by kernel_rfl) (by kernel_rfl) rfl (fun _ _ _ h => h) (Or.inl ⟨by rfl, ?_⟩) ?_; rotate_left; (intro wS hSw; (try dsimp only at hSw); first | (go_simp; done) | (go_simp; with_reducible rfl) | (simp [go_sem, ↓IntWalk.iteOmega, *]; done) | (simp [go_sem, ↓IntWalk.iteOmega, *]; with_reducible rfl)); (intro g8); clear g7; (try simp only [Act.put, List.setIfInBounds_toArray, List.set_cons_zero, List.set_cons_succ, List.getElem_toArray, List.getElem_cons_succ, List.getElem_cons_zero])
                                                                              refine wpAnyG_take (i := 13) (v := ?_) rfl g8 (by kernel_rfl) (by kernel_rfl) (by kernel_rfl) rfl (by kernel_rfl) (fun _ _ _ h => h) (Or.inl ⟨by rfl, ?_⟩) ?_; rotate_left; (intro wS hSw; (try dsimp only at hSw); first | (go_simp; done) | (go_simp; with_reducible rfl) | (simp [go_sem, ↓IntWalk.iteOmega, *]; done) | (simp [go_sem, ↓IntWalk.iteOmega, *]; with_reducible rfl)); (intro g9); clear g8; (try simp only [Act.put, List.setIfInBounds_toArray, List.set_cons_zero, List.set_cons_succ, List.getElem_toArray, List.getElem_cons_succ, List.getElem_cons_zero])
                                                                              refine wpAnyG_any (i := 15) (v := ?_) rfl g9 (by kernel_rfl) (by kernel_rfl) (by kernel_rfl) rfl (fun _ _ _ h => h) (Or.inl ⟨by rfl, ?_⟩) ?_; rotate_left; (intro wS hSw; (try dsimp only at hSw); first | (go_simp; done) | (go_simp; with_reducible rfl) | (simp [go_sem, ↓IntWalk.iteOmega, *]; done) | (simp [go_sem, ↓IntWalk.iteOmega, *]; with_reducible rfl)); (intro g10); clear g9; (try simp only [Act.put, List.setIfInBounds_toArray, List.set_cons_zero, List.set_cons_succ, List.getElem_toArray, List.getElem_cons_succ, List.getElem_cons_zero])
                                                                              refine wpAnyG_take (i := 16) (v := ?_) rfl g10 (by kernel_rfl) (by kernel_rfl) (by kernel_rfl) rfl (by kernel_rfl) (fun _ _ _ h => h) (Or.inl ⟨by rfl, ?_⟩) ?_; rotate_left; (intro wS hSw; (try dsimp only at hSw); first | (go_simp; done) | (go_simp; with_reducible rfl) | (simp [go_sem, ↓IntWalk.iteOmega, *]; done) | (simp [go_sem, ↓IntWalk.iteOmega, *]; with_reducible rfl)); (intro g11); clear g10; (try simp only [Act.put, List.setIfInBounds_toArray, List.set_cons_zero, List.set_cons_succ, List.getElem_toArray, List.getElem_cons_succ, List.getElem_cons_zero])
                                                                              refine wpAnyG_any (i := 17) (v := ?_) rfl g11 (by kernel_rfl) (by kernel_rfl) (by kernel_rfl) rfl (fun _ _ _ h => h) (Or.inl ⟨by rfl, ?_⟩) ?_; rotate_left; (intro wS hSw; (try dsimp only at hSw); first | (go_simp; done) | (go_simp; with_reducible rfl) | (simp [go_sem, ↓IntWalk.iteOmega, *]; done) | (simp [go_sem, ↓IntWalk.iteOmega, *]; with_reducible rfl)); (intro g12); clear g11; (try simp only [Act.put, List.setIfInBounds_toArray, List.set_cons_zero, List.set_cons_succ, List.getElem_toArray, List.getElem_cons_succ, List.getElem_cons_zero])
                                                                              refine wpAnyG_any (i := 18) (v := ?_) rfl g12 (by kernel_rfl) (by kernel_rfl) (by kernel_rfl) rfl (fun _ _ _ h => h) (Or.inl ⟨by rfl, ?_⟩) ?_; rotate_left; (intro wS hSw; (try dsimp only at hSw); first | (go_simp; done) | (go_simp; with_reducible rfl) | (simp [go_sem, ↓IntWalk.iteOmega, *]; done) | (simp [go_sem, ↓IntWalk.iteOmega, *]; with_reducible rfl)); (intro g13); clear g12; (try simp only [Act.put, List.setIfInBounds_toArray, List.set_cons_zero, List.set_cons_succ, List.getElem_toArray, List.getElem_cons_succ, List.getElem_cons_zero])
                                                                              refine wpAnyG_take (i := 19) (v := ?_) rfl g13 (by kernel_rfl) (by kernel_rfl) (by kernel_rfl) rfl (by kernel_rfl) (fun _ _ _ h => h) (Or.inl ⟨by rfl, ?_⟩) ?_; rotate_left; (intro wS hSw; (try dsimp only at hSw); first | (go_simp; done) | (go_simp; with_reducible rfl) | (simp [go_sem, ↓IntWalk.iteOmega, *]; done) | (simp [go_sem, ↓IntWalk.iteOmega, *]; with_reducible rfl)); (intro g14); clear g13; (try simp only [Act.put, List.setIfInBounds_toArray, List.set_cons_zero, List.set_cons_succ, List.getElem_toArray, List.getElem_cons_succ, List.getElem_cons_zero])
                                                                              have g00 := g14; clear g14; have g0 := g00; clear g00
                                                                              refine wpAnyG_ready (rs := [0, 9, 11, 20]) (by kernel_rfl) (by simp) (AllG.cons rfl g0 (fun K hK => ?_) (AllG.cons rfl g0 (fun K hK => ?_) (AllG.cons rfl g0 (fun K hK => ?_) (AllG.cons rfl g0 (fun K hK => ?_) AllG.nil))))
                                                                              · go_simp; refine DT.out.k0 (fun wN DT' => ?_); generalize wC.heap.size = X0 at DT' ⊢; clear DT; have DT := Lib.hid DT'; clear DT'
                                                                                refine hK.out _ _ (Or.inr (cif DT.out.bel)) (fun g1 => ?_); clear hK g0; (try simp only [Act.put, List.setIfInBounds_toArray, List.set_cons_zero, List.set_cons_succ, List.getElem_toArray, List.getElem_cons_succ, List.getElem_cons_zero])
                                                                                exact node_here (nd0 wN X0 DT.out) g1
                                                                              · go_simp; refine DT.out.k9 (fun wN DT' => ?_); generalize wC.heap.size = X9 at DT' ⊢; clear DT; have DT := Lib.hid DT'; clear DT'
                                                                                refine hK.out _ _ (Or.inr (cif DT.out.bel)) (fun g1 => ?_); clear hK g0; (try simp only [Act.put, List.setIfInBounds_toArray, List.set_cons_zero, List.set_cons_succ, List.getElem_toArray, List.getElem_cons_succ, List.getElem_cons_zero])
                                                                                exact node_here (nd9 wN X9 DT.out) g1
                                                                              · go_simp; refine DT.out.k11 (fun wN DT' => ?_); generalize wC.heap.size = X11 at DT' ⊢; clear DT; have DT := Lib.hid DT'; clear DT'
                                                                                refine hK.out _ _ (Or.inr (cif DT.out.bel)) (fun g1 => ?_); clear hK g0; (try simp only [Act.put, List.setIfInBounds_toArray, List.set_cons_zero, List.set_cons_succ, List.getElem_toArray, List.getElem_cons_succ, List.getElem_cons_zero])
                                                                                exact node_here (nd11 wN X11 DT.out) g1
                                                                              · go_simp; refine DT.out.k20 (fun wN DT' => ?_); generalize wC.heap.size = X20 at DT' ⊢; clear DT; have DT := Lib.hid DT'; clear DT'
                                                                                refine hK.out _ _ (Or.inr (cif DT.out.bel)) (fun g1 => ?_); clear hK g0; (try simp only [Act.put, List.setIfInBounds_toArray, List.set_cons_zero, List.set_cons_succ, List.getElem_toArray, List.getElem_cons_succ, List.getElem_cons_zero])
                                                                                exact node_here (nd20 wN X20 DT.out) g1
                                                                            · rintro wC X0 f0 g0
                                                                              have DT := Lib.hid f0; clear f0
                                                                              refine wpAnyG_ready (rs := [3, 9, 11, 20]) (by kernel_rfl) (by simp) (AllG.cons rfl g0 (fun K hK => ?_) (AllG.cons rfl g0 (fun K hK => ?_) (AllG.cons rfl g0 (fun K hK => ?_) (AllG.cons rfl g0 (fun K hK => ?_) AllG.nil))))
                                                                              · refine step_append_src (by rfl) _ _ 23 (by rfl) w9.heap.size 22 inr (.slice none 0 0) 1 24 undR7 hir jz0 jz1 jz2 rfl (by decide) _ _ _ (by rfl) DT.out.ra (some ⟨b1, o1, none⟩) R.length cR xs (by rfl) (SR.out _ (B9.trans (DT.out.bel.mono z9))) (by unfold maxLen; have := HS16.out; have := HXL.out; first | omega | (simp; omega)) (by have := HS16.out; have := HXL.out; first | omega | (simp; omega)) DT.out.base ?_; intro va3 wN ho8 hg8 hat8; have DT' := DSt.appA (ys := xs) (XS := xs) DT.out (by rw [HXL.out]; exact ho8) hg8 hat8 rfl; clear ho8 hg8 hat8; clear DT; have DT := Lib.hid DT'; clear DT'
                                                                                refine hK.out _ _ (Or.inr (cif DT.out.bel)) (fun g1 => ?_); clear hK g0; (try simp only [Act.put, List.setIfInBounds_toArray, List.set_cons_zero, List.set_cons_succ, List.getElem_toArray, List.getElem_cons_succ, List.getElem_cons_zero])
                                                                                exact node_here (nd0_3 wN X0 va3 DT.out) g1
                                                                              · go_simp; refine DT.out.k9 (fun wN DT' => ?_); generalize wC.heap.size = X9 at DT' ⊢; clear DT; have DT := Lib.hid DT'; clear DT'
                                                                                refine hK.out _ _ (Or.inr (cif DT.out.bel)) (fun g1 => ?_); clear hK g0; (try simp only [Act.put, List.setIfInBounds_toArray, List.set_cons_zero, List.set_cons_succ, List.getElem_toArray, List.getElem_cons_succ, List.getElem_cons_zero])
                                                                                exact node_here (nd0_9 wN X0 X9 DT.out) g1
                                                                              · go_simp; refine DT.out.k11 (fun wN DT' => ?_); generalize wC.heap.size = X11 at DT' ⊢; clear DT; have DT := Lib.hid DT'; clear DT'
                                                                                refine hK.out _ _ (Or.inr (cif DT.out.bel)) (fun g1 => ?_); clear hK g0; (try simp only [Act.put, List.setIfInBounds_toArray, List.set_cons_zero, List.set_cons_succ, List.getElem_toArray, List.getElem_cons_succ, List.getElem_cons_zero])
                                                                                exact node_here (nd0_11 wN X0 X11 DT.out) g1
                                                                              · go_simp; refine DT.out.k20 (fun wN DT' => ?_); generalize wC.heap.size = X20 at DT' ⊢; clear DT; have DT := Lib.hid DT'; clear DT'
                                                                                refine hK.out _ _ (Or.inr (cif DT.out.bel)) (fun g1 => ?_); clear hK g0; (try simp only [Act.put, List.setIfInBounds_toArray, List.set_cons_zero, List.set_cons_succ, List.getElem_toArray, List.getElem_cons_succ, List.getElem_cons_zero])
                                                                                exact node_here (nd0_20 wN X0 X20 DT.out) g1
                                                                          · rintro wC X9 f0 g0
                                                                            have DT := Lib.hid f0; clear f0
                                                                            refine wpAnyG_ready (rs := [0, 11, 20]) (by kernel_rfl) (by simp) (AllG.cons rfl g0 (fun K hK => ?_) (AllG.cons rfl g0 (fun K hK => ?_) (AllG.cons rfl g0 (fun K hK => ?_) AllG.nil)))
                                                                            · go_simp; refine DT.out.k0 (fun wN DT' => ?_); generalize wC.heap.size = X0 at DT' ⊢; clear DT; have DT := Lib.hid DT'; clear DT'
                                                                              refine hK.out _ _ (Or.inr (cif DT.out.bel)) (fun g1 => ?_); clear hK g0; (try simp only [Act.put, List.setIfInBounds_toArray, List.set_cons_zero, List.set_cons_succ, List.getElem_toArray, List.getElem_cons_succ, List.getElem_cons_zero])
                                                                              exact node_move (by kernel_rfl) (nd0_9 wN X0 X9 DT.out) g1
                                                                            · go_simp; refine DT.out.k11 (fun wN DT' => ?_); generalize wC.heap.size = X11 at DT' ⊢; clear DT; have DT := Lib.hid DT'; clear DT'
                                                                              refine hK.out _ _ (Or.inr (cif DT.out.bel)) (fun g1 => ?_); clear hK g0; (try simp only [Act.put, List.setIfInBounds_toArray, List.set_cons_zero, List.set_cons_succ, List.getElem_toArray, List.getElem_cons_succ, List.getElem_cons_zero])
                                                                              exact node_here (nd9_11 wN X9 X11 DT.out) g1
                                                                            · go_simp; refine DT.out.k20 (fun wN DT' => ?_); generalize wC.heap.size = X20 at DT' ⊢; clear DT; have DT := Lib.hid DT'; clear DT'
                                                                              refine hK.out _ _ (Or.inr (cif DT.out.bel)) (fun g1 => ?_); clear hK g0; (try simp only [Act.put, List.setIfInBounds_toArray, List.set_cons_zero, List.set_cons_succ, List.getElem_toArray, List.getElem_cons_succ, List.getElem_cons_zero])
                                                                              exact node_here (nd9_20 wN X9 X20 DT.out) g1
                                                                        · rintro wC X11 f0 g0
                                                                          have DT := Lib.hid f0; clear f0
                                                                          refine wpAnyG_ready (rs := [0, 9, 20]) (by kernel_rfl) (by simp) (AllG.cons rfl g0 (fun K hK => ?_) (AllG.cons rfl g0 (fun K hK => ?_) (AllG.cons rfl g0 (fun K hK => ?_) AllG.nil)))
                                                                          · go_simp; refine DT.out.k0 (fun wN DT' => ?_); generalize wC.heap.size = X0 at DT' ⊢; clear DT; have DT := Lib.hid DT'; clear DT'
                                                                            refine hK.out _ _ (Or.inr (cif DT.out.bel)) (fun g1 => ?_); clear hK g0; (try simp only [Act.put, List.setIfInBounds_toArray, List.set_cons_zero, List.set_cons_succ, List.getElem_toArray, List.getElem_cons_succ, List.getElem_cons_zero])
                                                                            exact node_move (by kernel_rfl) (nd0_11 wN X0 X11 DT.out) g1
                                                                          · go_simp; refine DT.out.k9 (fun wN DT' => ?_); generalize wC.heap.size = X9 at DT' ⊢; clear DT; have DT := Lib.hid DT'; clear DT'
                                                                            refine hK.out _ _ (Or.inr (cif DT.out.bel)) (fun g1 => ?_); clear hK g0; (try simp only [Act.put, List.setIfInBounds_toArray, List.set_cons_zero, List.set_cons_succ, List.getElem_toArray, List.getElem_cons_succ, List.getElem_cons_zero])
                                                                            exact node_move (by kernel_rfl) (nd9_11 wN X9 X11 DT.out) g1
                                                                          · go_simp; refine DT.out.k20 (fun wN DT' => ?_); generalize wC.heap.size = X20 at DT' ⊢; clear DT; have DT := Lib.hid DT'; clear DT'
                                                                            refine hK.out _ _ (Or.inr (cif DT.out.bel)) (fun g1 => ?_); clear hK g0; (try simp only [Act.put, List.setIfInBounds_toArray, List.set_cons_zero, List.set_cons_succ, List.getElem_toArray, List.getElem_cons_succ, List.getElem_cons_zero])
                                                                            exact node_here (nd11_20 wN X11 X20 DT.out) g1
                                                                      · rintro wC X20 f0 g0
                                                                        have DT := Lib.hid f0; clear f0
                                                                        refine wpAnyG_ready (rs := [0, 9, 11]) (by kernel_rfl) (by simp) (AllG.cons rfl g0 (fun K hK => ?_) (AllG.cons rfl g0 (fun K hK => ?_) (AllG.cons rfl g0 (fun K hK => ?_) AllG.nil)))
                                                                        · go_simp; refine DT.out.k0 (fun wN DT' => ?_); generalize wC.heap.size = X0 at DT' ⊢; clear DT; have DT := Lib.hid DT'; clear DT'
                                                                          refine hK.out _ _ (Or.inr (cif DT.out.bel)) (fun g1 => ?_); clear hK g0; (try simp only [Act.put, List.setIfInBounds_toArray, List.set_cons_zero, List.set_cons_succ, List.getElem_toArray, List.getElem_cons_succ, List.getElem_cons_zero])
                                                                          exact node_move (by kernel_rfl) (nd0_20 wN X0 X20 DT.out) g1
                                                                        · go_simp; refine DT.out.k9 (fun wN DT' => ?_); generalize wC.heap.size = X9 at DT' ⊢; clear DT; have DT := Lib.hid DT'; clear DT'
                                                                          refine hK.out _ _ (Or.inr (cif DT.out.bel)) (fun g1 => ?_); clear hK g0; (try simp only [Act.put, List.setIfInBounds_toArray, List.set_cons_zero, List.set_cons_succ, List.getElem_toArray, List.getElem_cons_succ, List.getElem_cons_zero])
                                                                          exact node_move (by kernel_rfl) (nd9_20 wN X9 X20 DT.out) g1
                                                                        · go_simp; refine DT.out.k11 (fun wN DT' => ?_); generalize wC.heap.size = X11 at DT' ⊢; clear DT; have DT := Lib.hid DT'; clear DT'
                                                                          refine hK.out _ _ (Or.inr (cif DT.out.bel)) (fun g1 => ?_); clear hK g0; (try simp only [Act.put, List.setIfInBounds_toArray, List.set_cons_zero, List.set_cons_succ, List.getElem_toArray, List.getElem_cons_succ, List.getElem_cons_zero])
                                                                          exact node_move (by kernel_rfl) (nd11_20 wN X11 X20 DT.out) g1
                                                                    · rintro wC X0 va3 f0 g0
                                                                      have DT := Lib.hid f0; clear f0
                                                                      refine wpAnyG_ready (rs := [9, 11, 20]) (by kernel_rfl) (by simp) (AllG.cons rfl g0 (fun K hK => ?_) (AllG.cons rfl g0 (fun K hK => ?_) (AllG.cons rfl g0 (fun K hK => ?_) AllG.nil)))
                                                                      · go_simp; refine DT.out.k9 (fun wN DT' => ?_); generalize wC.heap.size = X9 at DT' ⊢; clear DT; have DT := Lib.hid DT'; clear DT'
                                                                        refine hK.out _ _ (Or.inr (cif DT.out.bel)) (fun g1 => ?_); clear hK g0; (try simp only [Act.put, List.setIfInBounds_toArray, List.set_cons_zero, List.set_cons_succ, List.getElem_toArray, List.getElem_cons_succ, List.getElem_cons_zero])
                                                                        exact node_here (nd0_3_9 wN X0 va3 X9 DT.out) g1
                                                                      · go_simp; refine DT.out.k11 (fun wN DT' => ?_); generalize wC.heap.size = X11 at DT' ⊢; clear DT; have DT := Lib.hid DT'; clear DT'
                                                                        refine hK.out _ _ (Or.inr (cif DT.out.bel)) (fun g1 => ?_); clear hK g0; (try simp only [Act.put, List.setIfInBounds_toArray, List.set_cons_zero, List.set_cons_succ, List.getElem_toArray, List.getElem_cons_succ, List.getElem_cons_zero])
                                                                        exact node_here (nd0_3_11 wN X0 va3 X11 DT.out) g1
                                                                      · go_simp; refine DT.out.k20 (fun wN DT' => ?_); generalize wC.heap.size = X20 at DT' ⊢; clear DT; have DT := Lib.hid DT'; clear DT'
                                                                        refine hK.out _ _ (Or.inr (cif DT.out.bel)) (fun g1 => ?_); clear hK g0; (try simp only [Act.put, List.setIfInBounds_toArray, List.set_cons_zero, List.set_cons_succ, List.getElem_toArray, List.getElem_cons_succ, List.getElem_cons_zero])
                                                                        exact node_here (nd0_3_20 wN X0 va3 X20 DT.out) g1
                                                                  · rintro wC X0 X9 f0 g0
                                                                    have DT := Lib.hid f0; clear f0
                                                                    refine wpAnyG_ready (rs := [3, 11, 20]) (by kernel_rfl) (by simp) (AllG.cons rfl g0 (fun K hK => ?_) (AllG.cons rfl g0 (fun K hK => ?_) (AllG.cons rfl g0 (fun K hK => ?_) AllG.nil)))
                                                                    · refine step_append_src (by rfl) _ _ 23 (by rfl) w9.heap.size 22 inr (.slice none 0 0) 1 24 undR7 hir jz0 jz1 jz2 rfl (by decide) _ _ _ (by rfl) DT.out.ra (some ⟨b1, o1, none⟩) R.length cR xs (by rfl) (SR.out _ (B9.trans (DT.out.bel.mono z9))) (by unfold maxLen; have := HS16.out; have := HXL.out; first | omega | (simp; omega)) (by have := HS16.out; have := HXL.out; first | omega | (simp; omega)) DT.out.base ?_; intro va3 wN ho8 hg8 hat8; have DT' := DSt.appA (ys := xs) (XS := xs) DT.out (by rw [HXL.out]; exact ho8) hg8 hat8 rfl; clear ho8 hg8 hat8; clear DT; have DT := Lib.hid DT'; clear DT'
                                                                      refine hK.out _ _ (Or.inr (cif DT.out.bel)) (fun g1 => ?_); clear hK g0; (try simp only [Act.put, List.setIfInBounds_toArray, List.set_cons_zero, List.set_cons_succ, List.getElem_toArray, List.getElem_cons_succ, List.getElem_cons_zero])
                                                                      exact node_move (by kernel_rfl) (nd0_3_9 wN X0 va3 X9 DT.out) g1
                                                                    · go_simp; refine DT.out.k11 (fun wN DT' => ?_); generalize wC.heap.size = X11 at DT' ⊢; clear DT; have DT := Lib.hid DT'; clear DT'
                                                                      refine hK.out _ _ (Or.inr (cif DT.out.bel)) (fun g1 => ?_); clear hK g0; (try simp only [Act.put, List.setIfInBounds_toArray, List.set_cons_zero, List.set_cons_succ, List.getElem_toArray, List.getElem_cons_succ, List.getElem_cons_zero])
                                                                      exact node_here (nd0_9_11 wN X0 X9 X11 DT.out) g1
                                                                    · go_simp; refine DT.out.k20 (fun wN DT' => ?_); generalize wC.heap.size = X20 at DT' ⊢; clear DT; have DT := Lib.hid DT'; clear DT'
                                                                      refine hK.out _ _ (Or.inr (cif DT.out.bel)) (fun g1 => ?_); clear hK g0; (try simp only [Act.put, List.setIfInBounds_toArray, List.set_cons_zero, List.set_cons_succ, List.getElem_toArray, List.getElem_cons_succ, List.getElem_cons_zero])
                                                                      exact node_here (nd0_9_20 wN X0 X9 X20 DT.out) g1
                                                                · rintro wC X0 X11 f0 g0
                                                                  have DT := Lib.hid f0; clear f0
                                                                  refine wpAnyG_ready (rs := [3, 9, 20]) (by kernel_rfl) (by simp) (AllG.cons rfl g0 (fun K hK => ?_) (AllG.cons rfl g0 (fun K hK => ?_) (AllG.cons rfl g0 (fun K hK => ?_) AllG.nil)))
                                                                  · refine step_append_src (by rfl) _ _ 23 (by rfl) w9.heap.size 22 inr (.slice none 0 0) 1 24 undR7 hir jz0 jz1 jz2 rfl (by decide) _ _ _ (by rfl) DT.out.ra (some ⟨b1, o1, none⟩) R.length cR xs (by rfl) (SR.out _ (B9.trans (DT.out.bel.mono z9))) (by unfold maxLen; have := HS16.out; have := HXL.out; first | omega | (simp; omega)) (by have := HS16.out; have := HXL.out; first | omega | (simp; omega)) DT.out.base ?_; intro va3 wN ho8 hg8 hat8; have DT' := DSt.appA (ys := xs) (XS := xs) DT.out (by rw [HXL.out]; exact ho8) hg8 hat8 rfl; clear ho8 hg8 hat8; clear DT; have DT := Lib.hid DT'; clear DT'
                                                                    refine hK.out _ _ (Or.inr (cif DT.out.bel)) (fun g1 => ?_); clear hK g0; (try simp only [Act.put, List.setIfInBounds_toArray, List.set_cons_zero, List.set_cons_succ, List.getElem_toArray, List.getElem_cons_succ, List.getElem_cons_zero])
                                                                    exact node_move (by kernel_rfl) (nd0_3_11 wN X0 va3 X11 DT.out) g1
                                                                  · go_simp; refine DT.out.k9 (fun wN DT' => ?_); generalize wC.heap.size = X9 at DT' ⊢; clear DT; have DT := Lib.hid DT'; clear DT'
                                                                    refine hK.out _ _ (Or.inr (cif DT.out.bel)) (fun g1 => ?_); clear hK g0; (try simp only [Act.put, List.setIfInBounds_toArray, List.set_cons_zero, List.set_cons_succ, List.getElem_toArray, List.getElem_cons_succ, List.getElem_cons_zero])
                                                                    exact node_move (by kernel_rfl) (nd0_9_11 wN X0 X9 X11 DT.out) g1
                                                                  · go_simp; refine DT.out.k20 (fun wN DT' => ?_); generalize wC.heap.size = X20 at DT' ⊢; clear DT; have DT := Lib.hid DT'; clear DT'
                                                                    refine hK.out _ _ (Or.inr (cif DT.out.bel)) (fun g1 => ?_); clear hK g0; (try simp only [Act.put, List.setIfInBounds_toArray, List.set_cons_zero, List.set_cons_succ, List.getElem_toArray, List.getElem_cons_succ, List.getElem_cons_zero])
                                                                    exact node_here (nd0_11_20 wN X0 X11 X20 DT.out) g1
                                                              · rintro wC X0 X20 f0 g0
                                                                have DT := Lib.hid f0; clear f0
                                                                refine wpAnyG_ready (rs := [3, 9, 11]) (by kernel_rfl) (by simp) (AllG.cons rfl g0 (fun K hK => ?_) (AllG.cons rfl g0 (fun K hK => ?_) (AllG.cons rfl g0 (fun K hK => ?_) AllG.nil)))
                                                                · refine step_append_src (by rfl) _ _ 23 (by rfl) w9.heap.size 22 inr (.slice none 0 0) 1 24 undR7 hir jz0 jz1 jz2 rfl (by decide) _ _ _ (by rfl) DT.out.ra (some ⟨b1, o1, none⟩) R.length cR xs (by rfl) (SR.out _ (B9.trans (DT.out.bel.mono z9))) (by unfold maxLen; have := HS16.out; have := HXL.out; first | omega | (simp; omega)) (by have := HS16.out; have := HXL.out; first | omega | (simp; omega)) DT.out.base ?_; intro va3 wN ho8 hg8 hat8; have DT' := DSt.appA (ys := xs) (XS := xs) DT.out (by rw [HXL.out]; exact ho8) hg8 hat8 rfl; clear ho8 hg8 hat8; clear DT; have DT := Lib.hid DT'; clear DT'
                                                                  refine hK.out _ _ (Or.inr (cif DT.out.bel)) (fun g1 => ?_); clear hK g0; (try simp only [Act.put, List.setIfInBounds_toArray, List.set_cons_zero, List.set_cons_succ, List.getElem_toArray, List.getElem_cons_succ, List.getElem_cons_zero])
                                                                  exact node_move (by kernel_rfl) (nd0_3_20 wN X0 va3 X20 DT.out) g1
                                                                · go_simp; refine DT.out.k9 (fun wN DT' => ?_); generalize wC.heap.size = X9 at DT' ⊢; clear DT; have DT := Lib.hid DT'; clear DT'
                                                                  refine hK.out _ _ (Or.inr (cif DT.out.bel)) (fun g1 => ?_); clear hK g0; (try simp only [Act.put, List.setIfInBounds_toArray, List.set_cons_zero, List.set_cons_succ, List.getElem_toArray, List.getElem_cons_succ, List.getElem_cons_zero])
                                                                  exact node_move (by kernel_rfl) (nd0_9_20 wN X0 X9 X20 DT.out) g1
                                                                · go_simp; refine DT.out.k11 (fun wN DT' => ?_); generalize wC.heap.size = X11 at DT' ⊢; clear DT; have DT := Lib.hid DT'; clear DT'
                                                                  refine hK.out _ _ (Or.inr (cif DT.out.bel)) (fun g1 => ?_); clear hK g0; (try simp only [Act.put, List.setIfInBounds_toArray, List.set_cons_zero, List.set_cons_succ, List.getElem_toArray, List.getElem_cons_succ, List.getElem_cons_zero])
                                                                  exact node_move (by kernel_rfl) (nd0_11_20 wN X0 X11 X20 DT.out) g1
                                                            · rintro wC X9 X11 f0 g0
                                                              have DT := Lib.hid f0; clear f0
                                                              refine wpAnyG_ready (rs := [0, 20]) (by kernel_rfl) (by simp) (AllG.cons rfl g0 (fun K hK => ?_) (AllG.cons rfl g0 (fun K hK => ?_) AllG.nil))
                                                              · go_simp; refine DT.out.k0 (fun wN DT' => ?_); generalize wC.heap.size = X0 at DT' ⊢; clear DT; have DT := Lib.hid DT'; clear DT'
                                                                refine hK.out _ _ (Or.inr (cif DT.out.bel)) (fun g1 => ?_); clear hK g0; (try simp only [Act.put, List.setIfInBounds_toArray, List.set_cons_zero, List.set_cons_succ, List.getElem_toArray, List.getElem_cons_succ, List.getElem_cons_zero])
                                                                exact node_move (by kernel_rfl) (nd0_9_11 wN X0 X9 X11 DT.out) g1
                                                              · go_simp; refine DT.out.k20 (fun wN DT' => ?_); generalize wC.heap.size = X20 at DT' ⊢; clear DT; have DT := Lib.hid DT'; clear DT'
                                                                refine hK.out _ _ (Or.inr (cif DT.out.bel)) (fun g1 => ?_); clear hK g0; (try simp only [Act.put, List.setIfInBounds_toArray, List.set_cons_zero, List.set_cons_succ, List.getElem_toArray, List.getElem_cons_succ, List.getElem_cons_zero])
                                                                exact node_here (nd9_11_20 wN X9 X11 X20 DT.out) g1
                                                          · rintro wC X9 X20 f0 g0
                                                            have DT := Lib.hid f0; clear f0
                                                            refine wpAnyG_ready (rs := [0, 11]) (by kernel_rfl) (by simp) (AllG.cons rfl g0 (fun K hK => ?_) (AllG.cons rfl g0 (fun K hK => ?_) AllG.nil))
                                                            · go_simp; refine DT.out.k0 (fun wN DT' => ?_); generalize wC.heap.size = X0 at DT' ⊢; clear DT; have DT := Lib.hid DT'; clear DT'
                                                              refine hK.out _ _ (Or.inr (cif DT.out.bel)) (fun g1 => ?_); clear hK g0; (try simp only [Act.put, List.setIfInBounds_toArray, List.set_cons_zero, List.set_cons_succ, List.getElem_toArray, List.getElem_cons_succ, List.getElem_cons_zero])
                                                              exact node_move (by kernel_rfl) (nd0_9_20 wN X0 X9 X20 DT.out) g1
                                                            · go_simp; refine DT.out.k11 (fun wN DT' => ?_); generalize wC.heap.size = X11 at DT' ⊢; clear DT; have DT := Lib.hid DT'; clear DT'
                                                              refine hK.out _ _ (Or.inr (cif DT.out.bel)) (fun g1 => ?_); clear hK g0; (try simp only [Act.put, List.setIfInBounds_toArray, List.set_cons_zero, List.set_cons_succ, List.getElem_toArray, List.getElem_cons_succ, List.getElem_cons_zero])
                                                              exact node_move (by kernel_rfl) (nd9_11_20 wN X9 X11 X20 DT.out) g1
                                                        · rintro wC X11 X20 f0 g0
                                                          have DT := Lib.hid f0; clear f0
                                                          refine wpAnyG_ready (rs := [0, 9]) (by kernel_rfl) (by simp) (AllG.cons rfl g0 (fun K hK => ?_) (AllG.cons rfl g0 (fun K hK => ?_) AllG.nil))
                                                          · go_simp; refine DT.out.k0 (fun wN DT' => ?_); generalize wC.heap.size = X0 at DT' ⊢; clear DT; have DT := Lib.hid DT'; clear DT'
                                                            refine hK.out _ _ (Or.inr (cif DT.out.bel)) (fun g1 => ?_); clear hK g0; (try simp only [Act.put, List.setIfInBounds_toArray, List.set_cons_zero, List.set_cons_succ, List.getElem_toArray, List.getElem_cons_succ, List.getElem_cons_zero])
                                                            exact node_move (by kernel_rfl) (nd0_11_20 wN X0 X11 X20 DT.out) g1
                                                          · go_simp; refine DT.out.k9 (fun wN DT' => ?_); generalize wC.heap.size = X9 at DT' ⊢; clear DT; have DT := Lib.hid DT'; clear DT'
                                                            refine hK.out _ _ (Or.inr (cif DT.out.bel)) (fun g1 => ?_); clear hK g0; (try simp only [Act.put, List.setIfInBounds_toArray, List.set_cons_zero, List.set_cons_succ, List.getElem_toArray, List.getElem_cons_succ, List.getElem_cons_zero])
                                                            exact node_move (by kernel_rfl) (nd9_11_20 wN X9 X11 X20 DT.out) g1
                                                      · rintro wC X0 va3 X9 f0 g0
                                                        have DT := Lib.hid f0; clear f0
                                                        refine wpAnyG_ready (rs := [10, 11, 20]) (by kernel_rfl) (by simp) (AllG.cons rfl g0 (fun K hK => ?_) (AllG.cons rfl g0 (fun K hK => ?_) (AllG.cons rfl g0 (fun K hK => ?_) AllG.nil)))
                                                        · refine step_append_src (by rfl) _ _ 23 (by rfl) w9.heap.size 22 inr (.slice none 0 0) 1 24 undR7 hir jz0 jz1 jz2 rfl (by decide) _ _ _ (by rfl) DT.out.ra (some ⟨_, 0, none⟩) 1 1 [.slice S nS cS] (by rfl) (src_ofS (DT.out.fa _ rfl).1 rfl (one_one rfl)) (by unfold maxLen; have := HS16.out; have := HXL.out; first | omega | (simp; omega)) (by have := HS16.out; have := HXL.out; first | omega | (simp; omega)) DT.out.base ?_; intro v8 wN ho8 hg8 hat8; have DT' := DSt.appA (ys := [.slice S nS cS]) (XS := XA) DT.out (ho8) hg8 hat8 HXA.out.symm; obtain ⟨A10, c10, rfl⟩ := own_shape DT'.ra; clear ho8 hg8 hat8; clear DT; have DT := Lib.hid DT'; clear DT'
                                                          refine hK.out _ _ (Or.inr (cif DT.out.bel)) (fun g1 => ?_); clear hK g0; (try simp only [Act.put, List.setIfInBounds_toArray, List.set_cons_zero, List.set_cons_succ, List.getElem_toArray, List.getElem_cons_succ, List.getElem_cons_zero])
                                                          exact node_here (nd0_3_9_10 wN X0 va3 X9 A10 c10 DT.out) g1
                                                        · go_simp; refine DT.out.k11 (fun wN DT' => ?_); generalize wC.heap.size = X11 at DT' ⊢; clear DT; have DT := Lib.hid DT'; clear DT'
                                                          refine hK.out _ _ (Or.inr (cif DT.out.bel)) (fun g1 => ?_); clear hK g0; (try simp only [Act.put, List.setIfInBounds_toArray, List.set_cons_zero, List.set_cons_succ, List.getElem_toArray, List.getElem_cons_succ, List.getElem_cons_zero])
                                                          exact node_here (nd0_3_9_11 wN X0 va3 X9 X11 DT.out) g1
                                                        · go_simp; refine DT.out.k20 (fun wN DT' => ?_); generalize wC.heap.size = X20 at DT' ⊢; clear DT; have DT := Lib.hid DT'; clear DT'
                                                          refine hK.out _ _ (Or.inr (cif DT.out.bel)) (fun g1 => ?_); clear hK g0; (try simp only [Act.put, List.setIfInBounds_toArray, List.set_cons_zero, List.set_cons_succ, List.getElem_toArray, List.getElem_cons_succ, List.getElem_cons_zero])
                                                          exact node_here (nd0_3_9_20 wN X0 va3 X9 X20 DT.out) g1
                                                    · rintro wC X0 va3 X11 f0 g0
                                                      have DT := Lib.hid f0; clear f0
                                                      refine wpAnyG_ready (rs := [9, 20]) (by kernel_rfl) (by simp) (AllG.cons rfl g0 (fun K hK => ?_) (AllG.cons rfl g0 (fun K hK => ?_) AllG.nil))
                                                      · go_simp; refine DT.out.k9 (fun wN DT' => ?_); generalize wC.heap.size = X9 at DT' ⊢; clear DT; have DT := Lib.hid DT'; clear DT'
                                                        refine hK.out _ _ (Or.inr (cif DT.out.bel)) (fun g1 => ?_); clear hK g0; (try simp only [Act.put, List.setIfInBounds_toArray, List.set_cons_zero, List.set_cons_succ, List.getElem_toArray, List.getElem_cons_succ, List.getElem_cons_zero])
                                                        exact node_move (by kernel_rfl) (nd0_3_9_11 wN X0 va3 X9 X11 DT.out) g1
                                                      · go_simp; refine DT.out.k20 (fun wN DT' => ?_); generalize wC.heap.size = X20 at DT' ⊢; clear DT; have DT := Lib.hid DT'; clear DT'
                                                        refine hK.out _ _ (Or.inr (cif DT.out.bel)) (fun g1 => ?_); clear hK g0; (try simp only [Act.put, List.setIfInBounds_toArray, List.set_cons_zero, List.set_cons_succ, List.getElem_toArray, List.getElem_cons_succ, List.getElem_cons_zero])
                                                        exact node_here (nd0_3_11_20 wN X0 va3 X11 X20 DT.out) g1
                                                  · rintro wC X0 va3 X20 f0 g0
                                                    have DT := Lib.hid f0; clear f0
                                                    refine wpAnyG_ready (rs := [9, 11]) (by kernel_rfl) (by simp) (AllG.cons rfl g0 (fun K hK => ?_) (AllG.cons rfl g0 (fun K hK => ?_) AllG.nil))
                                                    · go_simp; refine DT.out.k9 (fun wN DT' => ?_); generalize wC.heap.size = X9 at DT' ⊢; clear DT; have DT := Lib.hid DT'; clear DT'
                                                      refine hK.out _ _ (Or.inr (cif DT.out.bel)) (fun g1 => ?_); clear hK g0; (try simp only [Act.put, List.setIfInBounds_toArray, List.set_cons_zero, List.set_cons_succ, List.getElem_toArray, List.getElem_cons_succ, List.getElem_cons_zero])
                                                      exact node_move (by kernel_rfl) (nd0_3_9_20 wN X0 va3 X9 X20 DT.out) g1
                                                    · go_simp; refine DT.out.k11 (fun wN DT' => ?_); generalize wC.heap.size = X11 at DT' ⊢; clear DT; have DT := Lib.hid DT'; clear DT'
                                                      refine hK.out _ _ (Or.inr (cif DT.out.bel)) (fun g1 => ?_); clear hK g0; (try simp only [Act.put, List.setIfInBounds_toArray, List.set_cons_zero, List.set_cons_succ, List.getElem_toArray, List.getElem_cons_succ, List.getElem_cons_zero])
                                                      exact node_move (by kernel_rfl) (nd0_3_11_20 wN X0 va3 X11 X20 DT.out) g1
                                                · rintro wC X0 X9 X11 f0 g0
                                                  have DT := Lib.hid f0; clear f0
                                                  refine wpAnyG_ready (rs := [3, 20]) (by kernel_rfl) (by simp) (AllG.cons rfl g0 (fun K hK => ?_) (AllG.cons rfl g0 (fun K hK => ?_) AllG.nil))
                                                  · refine step_append_src (by rfl) _ _ 23 (by rfl) w9.heap.size 22 inr (.slice none 0 0) 1 24 undR7 hir jz0 jz1 jz2 rfl (by decide) _ _ _ (by rfl) DT.out.ra (some ⟨b1, o1, none⟩) R.length cR xs (by rfl) (SR.out _ (B9.trans (DT.out.bel.mono z9))) (by unfold maxLen; have := HS16.out; have := HXL.out; first | omega | (simp; omega)) (by have := HS16.out; have := HXL.out; first | omega | (simp; omega)) DT.out.base ?_; intro va3 wN ho8 hg8 hat8; have DT' := DSt.appA (ys := xs) (XS := xs) DT.out (by rw [HXL.out]; exact ho8) hg8 hat8 rfl; clear ho8 hg8 hat8; clear DT; have DT := Lib.hid DT'; clear DT'
                                                    refine hK.out _ _ (Or.inr (cif DT.out.bel)) (fun g1 => ?_); clear hK g0; (try simp only [Act.put, List.setIfInBounds_toArray, List.set_cons_zero, List.set_cons_succ, List.getElem_toArray, List.getElem_cons_succ, List.getElem_cons_zero])
                                                    exact node_move (by kernel_rfl) (nd0_3_9_11 wN X0 va3 X9 X11 DT.out) g1
                                                  · go_simp; refine DT.out.k20 (fun wN DT' => ?_); generalize wC.heap.size = X20 at DT' ⊢; clear DT; have DT := Lib.hid DT'; clear DT'
                                                    refine hK.out _ _ (Or.inr (cif DT.out.bel)) (fun g1 => ?_); clear hK g0; (try simp only [Act.put, List.setIfInBounds_toArray, List.set_cons_zero, List.set_cons_succ, List.getElem_toArray, List.getElem_cons_succ, List.getElem_cons_zero])
                                                    exact node_here (nd0_9_11_20 wN X0 X9 X11 X20 DT.out) g1
                                              · rintro wC X0 X9 X20 f0 g0
                                                have DT := Lib.hid f0; clear f0
                                                refine wpAnyG_ready (rs := [3, 11]) (by kernel_rfl) (by simp) (AllG.cons rfl g0 (fun K hK => ?_) (AllG.cons rfl g0 (fun K hK => ?_) AllG.nil))
                                                · refine step_append_src (by rfl) _ _ 23 (by rfl) w9.heap.size 22 inr (.slice none 0 0) 1 24 undR7 hir jz0 jz1 jz2 rfl (by decide) _ _ _ (by rfl) DT.out.ra (some ⟨b1, o1, none⟩) R.length cR xs (by rfl) (SR.out _ (B9.trans (DT.out.bel.mono z9))) (by unfold maxLen; have := HS16.out; have := HXL.out; first | omega | (simp; omega)) (by have := HS16.out; have := HXL.out; first | omega | (simp; omega)) DT.out.base ?_; intro va3 wN ho8 hg8 hat8; have DT' := DSt.appA (ys := xs) (XS := xs) DT.out (by rw [HXL.out]; exact ho8) hg8 hat8 rfl; clear ho8 hg8 hat8; clear DT; have DT := Lib.hid DT'; clear DT'
                                                  refine hK.out _ _ (Or.inr (cif DT.out.bel)) (fun g1 => ?_); clear hK g0; (try simp only [Act.put, List.setIfInBounds_toArray, List.set_cons_zero, List.set_cons_succ, List.getElem_toArray, List.getElem_cons_succ, List.getElem_cons_zero])
                                                  exact node_move (by kernel_rfl) (nd0_3_9_20 wN X0 va3 X9 X20 DT.out) g1
                                                · go_simp; refine DT.out.k11 (fun wN DT' => ?_); generalize wC.heap.size = X11 at DT' ⊢; clear DT; have DT := Lib.hid DT'; clear DT'
                                                  refine hK.out _ _ (Or.inr (cif DT.out.bel)) (fun g1 => ?_); clear hK g0; (try simp only [Act.put, List.setIfInBounds_toArray, List.set_cons_zero, List.set_cons_succ, List.getElem_toArray, List.getElem_cons_succ, List.getElem_cons_zero])
                                                  exact node_move (by kernel_rfl) (nd0_9_11_20 wN X0 X9 X11 X20 DT.out) g1
                                            · rintro wC X0 X11 X20 f0 g0
                                              have DT := Lib.hid f0; clear f0
                                              refine wpAnyG_ready (rs := [3, 9]) (by kernel_rfl) (by simp) (AllG.cons rfl g0 (fun K hK => ?_) (AllG.cons rfl g0 (fun K hK => ?_) AllG.nil))
                                              · refine step_append_src (by rfl) _ _ 23 (by rfl) w9.heap.size 22 inr (.slice none 0 0) 1 24 undR7 hir jz0 jz1 jz2 rfl (by decide) _ _ _ (by rfl) DT.out.ra (some ⟨b1, o1, none⟩) R.length cR xs (by rfl) (SR.out _ (B9.trans (DT.out.bel.mono z9))) (by unfold maxLen; have := HS16.out; have := HXL.out; first | omega | (simp; omega)) (by have := HS16.out; have := HXL.out; first | omega | (simp; omega)) DT.out.base ?_; intro va3 wN ho8 hg8 hat8; have DT' := DSt.appA (ys := xs) (XS := xs) DT.out (by rw [HXL.out]; exact ho8) hg8 hat8 rfl; clear ho8 hg8 hat8; clear DT; have DT := Lib.hid DT'; clear DT'
                                                refine hK.out _ _ (Or.inr (cif DT.out.bel)) (fun g1 => ?_); clear hK g0; (try simp only [Act.put, List.setIfInBounds_toArray, List.set_cons_zero, List.set_cons_succ, List.getElem_toArray, List.getElem_cons_succ, List.getElem_cons_zero])
                                                exact node_move (by kernel_rfl) (nd0_3_11_20 wN X0 va3 X11 X20 DT.out) g1
                                              · go_simp; refine DT.out.k9 (fun wN DT' => ?_); generalize wC.heap.size = X9 at DT' ⊢; clear DT; have DT := Lib.hid DT'; clear DT'
                                                refine hK.out _ _ (Or.inr (cif DT.out.bel)) (fun g1 => ?_); clear hK g0; (try simp only [Act.put, List.setIfInBounds_toArray, List.set_cons_zero, List.set_cons_succ, List.getElem_toArray, List.getElem_cons_succ, List.getElem_cons_zero])
                                                exact node_move (by kernel_rfl) (nd0_9_11_20 wN X0 X9 X11 X20 DT.out) g1
                                          · rintro wC X9 X11 X20 f0 g0
                                            have DT := Lib.hid f0; clear f0
                                            refine wpAnyG_ready (rs := [0]) (by kernel_rfl) (by simp) (AllG.cons rfl g0 (fun K hK => ?_) AllG.nil)
                                            · go_simp; refine DT.out.k0 (fun wN DT' => ?_); generalize wC.heap.size = X0 at DT' ⊢; clear DT; have DT := Lib.hid DT'; clear DT'
                                              refine hK.out _ _ (Or.inr (cif DT.out.bel)) (fun g1 => ?_); clear hK g0; (try simp only [Act.put, List.setIfInBounds_toArray, List.set_cons_zero, List.set_cons_succ, List.getElem_toArray, List.getElem_cons_succ, List.getElem_cons_zero])
                                              exact node_move (by kernel_rfl) (nd0_9_11_20 wN X0 X9 X11 X20 DT.out) g1
                                        · rintro wC X0 va3 X9 A10 c10 f0 g0
                                          have DT := Lib.hid f0; clear f0
                                          refine wpAnyG_ready (rs := [11, 20]) (by kernel_rfl) (by simp) (AllG.cons rfl g0 (fun K hK => ?_) (AllG.cons rfl g0 (fun K hK => ?_) AllG.nil))
                                          · go_simp; refine DT.out.k11 (fun wN DT' => ?_); generalize wC.heap.size = X11 at DT' ⊢; clear DT; have DT := Lib.hid DT'; clear DT'
                                            refine hK.out _ _ (Or.inr (cif DT.out.bel)) (fun g1 => ?_); clear hK g0; (try simp only [Act.put, List.setIfInBounds_toArray, List.set_cons_zero, List.set_cons_succ, List.getElem_toArray, List.getElem_cons_succ, List.getElem_cons_zero])
                                            exact node_here (nd0_3_9_10_11 wN X0 va3 X9 A10 c10 X11 DT.out) g1
                                          · go_simp; refine DT.out.k20 (fun wN DT' => ?_); generalize wC.heap.size = X20 at DT' ⊢; clear DT; have DT := Lib.hid DT'; clear DT'
                                            refine hK.out _ _ (Or.inr (cif DT.out.bel)) (fun g1 => ?_); clear hK g0; (try simp only [Act.put, List.setIfInBounds_toArray, List.set_cons_zero, List.set_cons_succ, List.getElem_toArray, List.getElem_cons_succ, List.getElem_cons_zero])
                                            exact node_here (nd0_3_9_10_20 wN X0 va3 X9 A10 c10 X20 DT.out) g1
                                      · rintro wC X0 va3 X9 X11 f0 g0
                                        have DT := Lib.hid f0; clear f0
                                        refine wpAnyG_ready (rs := [10, 20]) (by kernel_rfl) (by simp) (AllG.cons rfl g0 (fun K hK => ?_) (AllG.cons rfl g0 (fun K hK => ?_) AllG.nil))
                                        · refine step_append_src (by rfl) _ _ 23 (by rfl) w9.heap.size 22 inr (.slice none 0 0) 1 24 undR7 hir jz0 jz1 jz2 rfl (by decide) _ _ _ (by rfl) DT.out.ra (some ⟨_, 0, none⟩) 1 1 [.slice S nS cS] (by rfl) (src_ofS (DT.out.fa _ rfl).1 rfl (one_one rfl)) (by unfold maxLen; have := HS16.out; have := HXL.out; first | omega | (simp; omega)) (by have := HS16.out; have := HXL.out; first | omega | (simp; omega)) DT.out.base ?_; intro v8 wN ho8 hg8 hat8; have DT' := DSt.appA (ys := [.slice S nS cS]) (XS := XA) DT.out (ho8) hg8 hat8 HXA.out.symm; obtain ⟨A10, c10, rfl⟩ := own_shape DT'.ra; clear ho8 hg8 hat8; clear DT; have DT := Lib.hid DT'; clear DT'
                                          refine hK.out _ _ (Or.inr (cif DT.out.bel)) (fun g1 => ?_); clear hK g0; (try simp only [Act.put, List.setIfInBounds_toArray, List.set_cons_zero, List.set_cons_succ, List.getElem_toArray, List.getElem_cons_succ, List.getElem_cons_zero])
                                          exact node_move (by kernel_rfl) (nd0_3_9_10_11 wN X0 va3 X9 A10 c10 X11 DT.out) g1
                                        · go_simp; refine DT.out.k20 (fun wN DT' => ?_); generalize wC.heap.size = X20 at DT' ⊢; clear DT; have DT := Lib.hid DT'; clear DT'
                                          refine hK.out _ _ (Or.inr (cif DT.out.bel)) (fun g1 => ?_); clear hK g0; (try simp only [Act.put, List.setIfInBounds_toArray, List.set_cons_zero, List.set_cons_succ, List.getElem_toArray, List.getElem_cons_succ, List.getElem_cons_zero])
                                          exact node_here (nd0_3_9_11_20 wN X0 va3 X9 X11 X20 DT.out) g1
                                    · rintro wC X0 va3 X9 X20 f0 g0
                                      have DT := Lib.hid f0; clear f0
                                      refine wpAnyG_ready (rs := [10, 11]) (by kernel_rfl) (by simp) (AllG.cons rfl g0 (fun K hK => ?_) (AllG.cons rfl g0 (fun K hK => ?_) AllG.nil))
                                      · refine step_append_src (by rfl) _ _ 23 (by rfl) w9.heap.size 22 inr (.slice none 0 0) 1 24 undR7 hir jz0 jz1 jz2 rfl (by decide) _ _ _ (by rfl) DT.out.ra (some ⟨_, 0, none⟩) 1 1 [.slice S nS cS] (by rfl) (src_ofS (DT.out.fa _ rfl).1 rfl (one_one rfl)) (by unfold maxLen; have := HS16.out; have := HXL.out; first | omega | (simp; omega)) (by have := HS16.out; have := HXL.out; first | omega | (simp; omega)) DT.out.base ?_; intro v8 wN ho8 hg8 hat8; have DT' := DSt.appA (ys := [.slice S nS cS]) (XS := XA) DT.out (ho8) hg8 hat8 HXA.out.symm; obtain ⟨A10, c10, rfl⟩ := own_shape DT'.ra; clear ho8 hg8 hat8; clear DT; have DT := Lib.hid DT'; clear DT'
                                        refine hK.out _ _ (Or.inr (cif DT.out.bel)) (fun g1 => ?_); clear hK g0; (try simp only [Act.put, List.setIfInBounds_toArray, List.set_cons_zero, List.set_cons_succ, List.getElem_toArray, List.getElem_cons_succ, List.getElem_cons_zero])
                                        exact node_move (by kernel_rfl) (nd0_3_9_10_20 wN X0 va3 X9 A10 c10 X20 DT.out) g1
                                      · go_simp; refine DT.out.k11 (fun wN DT' => ?_); generalize wC.heap.size = X11 at DT' ⊢; clear DT; have DT := Lib.hid DT'; clear DT'
                                        refine hK.out _ _ (Or.inr (cif DT.out.bel)) (fun g1 => ?_); clear hK g0; (try simp only [Act.put, List.setIfInBounds_toArray, List.set_cons_zero, List.set_cons_succ, List.getElem_toArray, List.getElem_cons_succ, List.getElem_cons_zero])
                                        exact node_move (by kernel_rfl) (nd0_3_9_11_20 wN X0 va3 X9 X11 X20 DT.out) g1
                                  · rintro wC X0 va3 X11 X20 f0 g0
                                    have DT := Lib.hid f0; clear f0
                                    refine wpAnyG_ready (rs := [9]) (by kernel_rfl) (by simp) (AllG.cons rfl g0 (fun K hK => ?_) AllG.nil)
                                    · go_simp; refine DT.out.k9 (fun wN DT' => ?_); generalize wC.heap.size = X9 at DT' ⊢; clear DT; have DT := Lib.hid DT'; clear DT'
                                      refine hK.out _ _ (Or.inr (cif DT.out.bel)) (fun g1 => ?_); clear hK g0; (try simp only [Act.put, List.setIfInBounds_toArray, List.set_cons_zero, List.set_cons_succ, List.getElem_toArray, List.getElem_cons_succ, List.getElem_cons_zero])
                                      exact node_move (by kernel_rfl) (nd0_3_9_11_20 wN X0 va3 X9 X11 X20 DT.out) g1
                                · rintro wC X0 X9 X11 X20 f0 g0
                                  have DT := Lib.hid f0; clear f0
                                  refine wpAnyG_ready (rs := [3]) (by kernel_rfl) (by simp) (AllG.cons rfl g0 (fun K hK => ?_) AllG.nil)
                                  · refine step_append_src (by rfl) _ _ 23 (by rfl) w9.heap.size 22 inr (.slice none 0 0) 1 24 undR7 hir jz0 jz1 jz2 rfl (by decide) _ _ _ (by rfl) DT.out.ra (some ⟨b1, o1, none⟩) R.length cR xs (by rfl) (SR.out _ (B9.trans (DT.out.bel.mono z9))) (by unfold maxLen; have := HS16.out; have := HXL.out; first | omega | (simp; omega)) (by have := HS16.out; have := HXL.out; first | omega | (simp; omega)) DT.out.base ?_; intro va3 wN ho8 hg8 hat8; have DT' := DSt.appA (ys := xs) (XS := xs) DT.out (by rw [HXL.out]; exact ho8) hg8 hat8 rfl; clear ho8 hg8 hat8; clear DT; have DT := Lib.hid DT'; clear DT'
                                    refine hK.out _ _ (Or.inr (cif DT.out.bel)) (fun g1 => ?_); clear hK g0; (try simp only [Act.put, List.setIfInBounds_toArray, List.set_cons_zero, List.set_cons_succ, List.getElem_toArray, List.getElem_cons_succ, List.getElem_cons_zero])
                                    exact node_move (by kernel_rfl) (nd0_3_9_11_20 wN X0 va3 X9 X11 X20 DT.out) g1
                              · rintro wC X0 va3 X9 A10 c10 X11 f0 g0
                                have DT := Lib.hid f0; clear f0
                                refine wpAnyG_ready (rs := [14, 20]) (by kernel_rfl) (by simp) (AllG.cons rfl g0 (fun K hK => ?_) (AllG.cons rfl g0 (fun K hK => ?_) AllG.nil))
                                · refine step_append_src (by rfl) _ _ 22 (by rfl) w9.heap.size 29 inf (.agg #[.int .i64 0, .int .i64 0]) 2 16 undC hi iz0 iz1 iz2 rfl (by decide) _ _ _ (by rfl) DT.out.rb (some ⟨b2, o2, none⟩) b.length cb (fc b) (by rfl) (SB.out _ (B9.trans (DT.out.bel.mono z9))) (by unfold maxLen; have := HS16.out; first | omega | (simp; omega)) (by have := HS16.out; first | omega | (simp; omega)) DT.out.base ?_; intro vb14 wN ho8 hg8 hat8; have DT' := DSt.appB (l2 := b) (L := b) DT.out ho8 hg8 hat8 rfl; clear ho8 hg8 hat8; clear DT; have DT := Lib.hid DT'; clear DT'
                                  refine hK.out _ _ (Or.inr (cif DT.out.bel)) (fun g1 => ?_); clear hK g0; (try simp only [Act.put, List.setIfInBounds_toArray, List.set_cons_zero, List.set_cons_succ, List.getElem_toArray, List.getElem_cons_succ, List.getElem_cons_zero])
                                  exact node_here (nd0_3_9_10_11_14 wN X0 va3 X9 A10 c10 X11 vb14 DT.out) g1
                                · go_simp; refine DT.out.k20 (fun wN DT' => ?_); generalize wC.heap.size = X20 at DT' ⊢; clear DT; have DT := Lib.hid DT'; clear DT'
                                  refine hK.out _ _ (Or.inr (cif DT.out.bel)) (fun g1 => ?_); clear hK g0; (try simp only [Act.put, List.setIfInBounds_toArray, List.set_cons_zero, List.set_cons_succ, List.getElem_toArray, List.getElem_cons_succ, List.getElem_cons_zero])
                                  exact node_here (nd0_3_9_10_11_20 wN X0 va3 X9 A10 c10 X11 X20 DT.out) g1
                            · rintro wC X0 va3 X9 A10 c10 X20 f0 g0
                              have DT := Lib.hid f0; clear f0
                              refine wpAnyG_ready (rs := [11]) (by kernel_rfl) (by simp) (AllG.cons rfl g0 (fun K hK => ?_) AllG.nil)
                              · go_simp; refine DT.out.k11 (fun wN DT' => ?_); generalize wC.heap.size = X11 at DT' ⊢; clear DT; have DT := Lib.hid DT'; clear DT'
                                refine hK.out _ _ (Or.inr (cif DT.out.bel)) (fun g1 => ?_); clear hK g0; (try simp only [Act.put, List.setIfInBounds_toArray, List.set_cons_zero, List.set_cons_succ, List.getElem_toArray, List.getElem_cons_succ, List.getElem_cons_zero])
                                exact node_move (by kernel_rfl) (nd0_3_9_10_11_20 wN X0 va3 X9 A10 c10 X11 X20 DT.out) g1
                          · rintro wC X0 va3 X9 X11 X20 f0 g0
                            have DT := Lib.hid f0; clear f0
                            refine wpAnyG_ready (rs := [10]) (by kernel_rfl) (by simp) (AllG.cons rfl g0 (fun K hK => ?_) AllG.nil)
                            · refine step_append_src (by rfl) _ _ 23 (by rfl) w9.heap.size 22 inr (.slice none 0 0) 1 24 undR7 hir jz0 jz1 jz2 rfl (by decide) _ _ _ (by rfl) DT.out.ra (some ⟨_, 0, none⟩) 1 1 [.slice S nS cS] (by rfl) (src_ofS (DT.out.fa _ rfl).1 rfl (one_one rfl)) (by unfold maxLen; have := HS16.out; have := HXL.out; first | omega | (simp; omega)) (by have := HS16.out; have := HXL.out; first | omega | (simp; omega)) DT.out.base ?_; intro v8 wN ho8 hg8 hat8; have DT' := DSt.appA (ys := [.slice S nS cS]) (XS := XA) DT.out (ho8) hg8 hat8 HXA.out.symm; obtain ⟨A10, c10, rfl⟩ := own_shape DT'.ra; clear ho8 hg8 hat8; clear DT; have DT := Lib.hid DT'; clear DT'
                              refine hK.out _ _ (Or.inr (cif DT.out.bel)) (fun g1 => ?_); clear hK g0; (try simp only [Act.put, List.setIfInBounds_toArray, List.set_cons_zero, List.set_cons_succ, List.getElem_toArray, List.getElem_cons_succ, List.getElem_cons_zero])
                              exact node_move (by kernel_rfl) (nd0_3_9_10_11_20 wN X0 va3 X9 A10 c10 X11 X20 DT.out) g1
                        · rintro wC X0 va3 X9 A10 c10 X11 vb14 f0 g0
                          have DT := Lib.hid f0; clear f0
                          refine wpAnyG_ready (rs := [20]) (by kernel_rfl) (by simp) (AllG.cons rfl g0 (fun K hK => ?_) AllG.nil)
                          · go_simp; refine DT.out.k20 (fun wN DT' => ?_); generalize wC.heap.size = X20 at DT' ⊢; clear DT; have DT := Lib.hid DT'; clear DT'
                            refine hK.out _ _ (Or.inr (cif DT.out.bel)) (fun g1 => ?_); clear hK g0; (try simp only [Act.put, List.setIfInBounds_toArray, List.set_cons_zero, List.set_cons_succ, List.getElem_toArray, List.getElem_cons_succ, List.getElem_cons_zero])
                            exact node_here (nd0_3_9_10_11_14_20 wN X0 va3 X9 A10 c10 X11 vb14 X20 DT.out) g1
                      · rintro wC X0 va3 X9 A10 c10 X11 X20 f0 g0
                        have DT := Lib.hid f0; clear f0
                        refine wpAnyG_ready (rs := [14]) (by kernel_rfl) (by simp) (AllG.cons rfl g0 (fun K hK => ?_) AllG.nil)
                        · refine step_append_src (by rfl) _ _ 22 (by rfl) w9.heap.size 29 inf (.agg #[.int .i64 0, .int .i64 0]) 2 16 undC hi iz0 iz1 iz2 rfl (by decide) _ _ _ (by rfl) DT.out.rb (some ⟨b2, o2, none⟩) b.length cb (fc b) (by rfl) (SB.out _ (B9.trans (DT.out.bel.mono z9))) (by unfold maxLen; have := HS16.out; first | omega | (simp; omega)) (by have := HS16.out; first | omega | (simp; omega)) DT.out.base ?_; intro vb14 wN ho8 hg8 hat8; have DT' := DSt.appB (l2 := b) (L := b) DT.out ho8 hg8 hat8 rfl; clear ho8 hg8 hat8; clear DT; have DT := Lib.hid DT'; clear DT'
                          refine hK.out _ _ (Or.inr (cif DT.out.bel)) (fun g1 => ?_); clear hK g0; (try simp only [Act.put, List.setIfInBounds_toArray, List.set_cons_zero, List.set_cons_succ, List.getElem_toArray, List.getElem_cons_succ, List.getElem_cons_zero])
                          exact node_move (by kernel_rfl) (nd0_3_9_10_11_14_20 wN X0 va3 X9 A10 c10 X11 vb14 X20 DT.out) g1
                    · rintro wC X0 va3 X9 A10 c10 X11 vb14 X20 f0 g0
                      have DT := Lib.hid f0; clear f0
                      refine wpAnyG_ready (rs := [21]) (by kernel_rfl) (by simp) (AllG.cons rfl g0 (fun K hK => ?_) AllG.nil)
                      · refine step_append_src (by rfl) _ _ 22 (by rfl) w9.heap.size 29 inf (.agg #[.int .i64 0, .int .i64 0]) 2 16 undC hi iz0 iz1 iz2 rfl (by decide) _ _ _ (by rfl) DT.out.rb (some ⟨_, 0, none⟩) 1 1 [.int .i64 (fv b i0), .int .i64 (fx b i0)] (by rfl) (src_ofS (DT.out.fb _ rfl).1 rfl (two_one rfl rfl)) (by unfold maxLen; have := HS16.out; first | omega | (simp; omega)) (by have := HS16.out; first | omega | (simp; omega)) DT.out.base ?_; intro v8 wN ho8 hg8 hat8; have DT' := DSt.appB (l2 := [(fv b i0, fx b i0)]) (L := LM) DT.out ho8 hg8 hat8 HLM.out.symm; obtain ⟨A21, c21, rfl⟩ := own_shape DT'.rb; clear ho8 hg8 hat8; clear DT; have DT := Lib.hid DT'; clear DT'
                        refine hK.out _ _ (Or.inl rfl) (fun g1 => ?_); clear hK g0; (try simp only [Act.put, List.setIfInBounds_toArray, List.set_cons_zero, List.set_cons_succ, List.getElem_toArray, List.getElem_cons_succ, List.getElem_cons_zero])
                        refine wpAnyG_any (i := 22) (v := ?_) rfl g1 (by kernel_rfl) (by kernel_rfl) (by kernel_rfl) rfl (fun _ _ _ h => h) (Or.inl ⟨by rfl, ?_⟩) ?_; rotate_left; (intro wS hSw; (try dsimp only at hSw); first | (go_simp; done) | (go_simp; with_reducible rfl) | (simp [go_sem, ↓IntWalk.iteOmega, *]; done) | (simp [go_sem, ↓IntWalk.iteOmega, *]; with_reducible rfl)); (intro g2); clear g1; (try simp only [Act.put, List.setIfInBounds_toArray, List.set_cons_zero, List.set_cons_succ, List.getElem_toArray, List.getElem_cons_succ, List.getElem_cons_zero])
                        refine wpAnyG_any (i := 23) (v := ?_) rfl g2 (by kernel_rfl) (by kernel_rfl) (by kernel_rfl) rfl (fun _ _ _ h => h) (Or.inl ⟨by rfl, ?_⟩) ?_; rotate_left; (intro wS hSw; (try dsimp only at hSw); first | (go_simp; done) | (go_simp; with_reducible rfl) | (simp [go_sem, ↓IntWalk.iteOmega, *]; done) | (simp [go_sem, ↓IntWalk.iteOmega, *]; with_reducible rfl)); (intro g3); clear g2; (try simp only [Act.put, List.setIfInBounds_toArray, List.set_cons_zero, List.set_cons_succ, List.getElem_toArray, List.getElem_cons_succ, List.getElem_cons_zero])
                        exact node_here (nd0_3_9_10_11_14_20_21 wN X0 va3 X9 A10 c10 X11 vb14 X20 A21 c21 DT.out) g3
                  · rintro wC X0 va3 X9 A10 c10 X11 vb14 X20 A21 c21 f0 g0
                    have DT := Lib.hid f0; clear f0
                    refine wpAnyG_done (by kernel_rfl) ?_ _; clear g0
                    go_wp2
                    go_meet
                    case rel =>
                      obtain ⟨A1, c1', hv1, hM1⟩ := mx_of_own (own_len DT.out.ra HXAl.out) (HSls.out _ DT.out.bel) (by have := HLa.out; have := HS16.out; omega)
                      exact ⟨A1, c1', A21, c21, hv1, rfl, Lib.hid hM1, Lib.hid (own_factsL DT.out.rb (by have := HLLM.out; omega)), DT.out.bel⟩
                case rest =>
                  obtain ⟨A1, c1, A2, c2, rfl, rfl, hM1, hF2, hbc⟩ := hcut
                  obtain ⟨wD, hwD⟩ : ∃ wD : World, wD = wc := ⟨_, rfl⟩
                  rw [← hwD] at hM1 hF2 hbc ⊢
                  have hPD := hP9.up hbc
                  have hVD := hV9.up hbc
                  have BD := B9.trans (hbc.mono z9)
                  have zD := BD.size
                  have K3 := Lib.hid (KS3.out A1 c1 A2 c2 wD hbc hM1.out hF2.out)
                  clear hwD hbc p0 p1 p2 p3 d1 d3 d4 hb1 hb2 i0' i1' i2' hM1 hF2
                  have p0 := hPD.lt
                  have p1 := hPD.c0
                  have p2 := hPD.c1
                  have p3 := hPD.c2
                  go_wp2_with fail
                  refine K3.out.mono ?_
                  rintro e w20 ⟨⟨u1', u2', cd3, xx3, yy3, rfl, hv3⟩, hb20⟩
                  have hVE := hVD.up hb20
                  have BE := BD.trans (hb20.mono zD)
                  have zE := BE.size
                  obtain ⟨y0, y1, y2, _, _⟩ := id hVE
                  clear p0 p1 p2 p3 hb20 hVE hVD hPD
                  rcases hv3 with hA | ⟨hA, hA1, hA2⟩
                  · subst hA
                    simp only [errV_5]
                    go_wp2_with fail
                    refine (KI5.out _).mono ?_
                    rintro e _ ⟨rfl, rfl⟩
                    go_wp2
                    go_ret
                    exact ⟨rfl, BE.alloc zE _⟩
                  · subst hA hA1 hA2
                    simp only [errV_0]
                    go_wp2
                    go_ret
                    exact ⟨rfl, BE.alloc zE _⟩

end Go.Proofs.Ytaomaopbdilmnaa

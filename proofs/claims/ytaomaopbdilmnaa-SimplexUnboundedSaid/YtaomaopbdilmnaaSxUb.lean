/- The law SimplexUnbounded. -/
import Derived.Test.YtaomaopbdilmnaaSxUa
namespace Go.Proofs.Ytaomaopbdilmnaa
set_option linter.unusedSimpArgs false
set_option linter.unusedVariables false
open Go Go.RowKit
set_option linter.unusedVariables false

/-- The walk from a set of operations that are done. -/
def NodeG (P : Program) (md : Region.Mode) (ops : Array Oper) (Q : Exit → Act → World → Prop) (st : Nat) (S : World → Prop) (fuel : Nat) (listed : Array Bool) (a : Act) (w : World) : Prop := Cl md ops listed ∧ Gd st S listed w → wpAnyG P md ops Q st S fuel listed a w
section
variable {P : Program} {md : Region.Mode} {ops : Array Oper} {Q : Exit → Act → World → Prop} {st : Nat} {S : World → Prop} {fuel : Nat} {l l' : Array Bool} {a : Act} {w : World}
theorem node_here (h : NodeG P md ops Q st S fuel l a w) (hG : Cl md ops l ∧ Gd st S l w) : wpAnyG P md ops Q st S fuel l a w := h hG
theorem node_move (e : l = l') (h : NodeG P md ops Q st S fuel l' a w) (hG : Cl md ops l ∧ Gd st S l w) : wpAnyG P md ops Q st S fuel l a w := by subst e; exact h hG
end
theorem merge2 {α0 α1 : Type} {T : Prop} {F G : α0 → α1 → Prop} (walk : (∀ (x0 : α0) (x1 : α1), F x0 x1 → G x0 x1) → T) (rest : ∀ (x0 : α0) (x1 : α1), F x0 x1 → G x0 x1) : T := walk rest
theorem merge3 {α0 α1 α2 : Type} {T : Prop} {F G : α0 → α1 → α2 → Prop} (walk : (∀ (x0 : α0) (x1 : α1) (x2 : α2), F x0 x1 x2 → G x0 x1 x2) → T) (rest : ∀ (x0 : α0) (x1 : α1) (x2 : α2), F x0 x1 x2 → G x0 x1 x2) : T := walk rest
theorem merge4 {α0 α1 α2 α3 : Type} {T : Prop} {F G : α0 → α1 → α2 → α3 → Prop} (walk : (∀ (x0 : α0) (x1 : α1) (x2 : α2) (x3 : α3), F x0 x1 x2 x3 → G x0 x1 x2 x3) → T) (rest : ∀ (x0 : α0) (x1 : α1) (x2 : α2) (x3 : α3), F x0 x1 x2 x3 → G x0 x1 x2 x3) : T := walk rest
theorem merge5 {α0 α1 α2 α3 α4 : Type} {T : Prop} {F G : α0 → α1 → α2 → α3 → α4 → Prop} (walk : (∀ (x0 : α0) (x1 : α1) (x2 : α2) (x3 : α3) (x4 : α4), F x0 x1 x2 x3 x4 → G x0 x1 x2 x3 x4) → T) (rest : ∀ (x0 : α0) (x1 : α1) (x2 : α2) (x3 : α3) (x4 : α4), F x0 x1 x2 x3 x4 → G x0 x1 x2 x3 x4) : T := walk rest
theorem merge6 {α0 α1 α2 α3 α4 α5 : Type} {T : Prop} {F G : α0 → α1 → α2 → α3 → α4 → α5 → Prop} (walk : (∀ (x0 : α0) (x1 : α1) (x2 : α2) (x3 : α3) (x4 : α4) (x5 : α5), F x0 x1 x2 x3 x4 x5 → G x0 x1 x2 x3 x4 x5) → T) (rest : ∀ (x0 : α0) (x1 : α1) (x2 : α2) (x3 : α3) (x4 : α4) (x5 : α5), F x0 x1 x2 x3 x4 x5 → G x0 x1 x2 x3 x4 x5) : T := walk rest
theorem merge7 {α0 α1 α2 α3 α4 α5 α6 : Type} {T : Prop} {F G : α0 → α1 → α2 → α3 → α4 → α5 → α6 → Prop} (walk : (∀ (x0 : α0) (x1 : α1) (x2 : α2) (x3 : α3) (x4 : α4) (x5 : α5) (x6 : α6), F x0 x1 x2 x3 x4 x5 x6 → G x0 x1 x2 x3 x4 x5 x6) → T) (rest : ∀ (x0 : α0) (x1 : α1) (x2 : α2) (x3 : α3) (x4 : α4) (x5 : α5) (x6 : α6), F x0 x1 x2 x3 x4 x5 x6 → G x0 x1 x2 x3 x4 x5 x6) : T := walk rest
theorem merge8 {α0 α1 α2 α3 α4 α5 α6 α7 : Type} {T : Prop} {F G : α0 → α1 → α2 → α3 → α4 → α5 → α6 → α7 → Prop} (walk : (∀ (x0 : α0) (x1 : α1) (x2 : α2) (x3 : α3) (x4 : α4) (x5 : α5) (x6 : α6) (x7 : α7), F x0 x1 x2 x3 x4 x5 x6 x7 → G x0 x1 x2 x3 x4 x5 x6 x7) → T) (rest : ∀ (x0 : α0) (x1 : α1) (x2 : α2) (x3 : α3) (x4 : α4) (x5 : α5) (x6 : α6) (x7 : α7), F x0 x1 x2 x3 x4 x5 x6 x7 → G x0 x1 x2 x3 x4 x5 x6 x7) : T := walk rest
theorem merge9 {α0 α1 α2 α3 α4 α5 α6 α7 α8 : Type} {T : Prop} {F G : α0 → α1 → α2 → α3 → α4 → α5 → α6 → α7 → α8 → Prop} (walk : (∀ (x0 : α0) (x1 : α1) (x2 : α2) (x3 : α3) (x4 : α4) (x5 : α5) (x6 : α6) (x7 : α7) (x8 : α8), F x0 x1 x2 x3 x4 x5 x6 x7 x8 → G x0 x1 x2 x3 x4 x5 x6 x7 x8) → T) (rest : ∀ (x0 : α0) (x1 : α1) (x2 : α2) (x3 : α3) (x4 : α4) (x5 : α5) (x6 : α6) (x7 : α7) (x8 : α8), F x0 x1 x2 x3 x4 x5 x6 x7 x8 → G x0 x1 x2 x3 x4 x5 x6 x7 x8) : T := walk rest
theorem merge13 {α0 α1 α2 α3 α4 α5 α6 α7 α8 α9 α10 α11 α12 : Type} {T : Prop} {F G : α0 → α1 → α2 → α3 → α4 → α5 → α6 → α7 → α8 → α9 → α10 → α11 → α12 → Prop} (walk : (∀ (x0 : α0) (x1 : α1) (x2 : α2) (x3 : α3) (x4 : α4) (x5 : α5) (x6 : α6) (x7 : α7) (x8 : α8) (x9 : α9) (x10 : α10) (x11 : α11) (x12 : α12), F x0 x1 x2 x3 x4 x5 x6 x7 x8 x9 x10 x11 x12 → G x0 x1 x2 x3 x4 x5 x6 x7 x8 x9 x10 x11 x12) → T) (rest : ∀ (x0 : α0) (x1 : α1) (x2 : α2) (x3 : α3) (x4 : α4) (x5 : α5) (x6 : α6) (x7 : α7) (x8 : α8) (x9 : α9) (x10 : α10) (x11 : α11) (x12 : α12), F x0 x1 x2 x3 x4 x5 x6 x7 x8 x9 x10 x11 x12 → G x0 x1 x2 x3 x4 x5 x6 x7 x8 x9 x10 x11 x12) : T := walk rest
theorem merge14 {α0 α1 α2 α3 α4 α5 α6 α7 α8 α9 α10 α11 α12 α13 : Type} {T : Prop} {F G : α0 → α1 → α2 → α3 → α4 → α5 → α6 → α7 → α8 → α9 → α10 → α11 → α12 → α13 → Prop} (walk : (∀ (x0 : α0) (x1 : α1) (x2 : α2) (x3 : α3) (x4 : α4) (x5 : α5) (x6 : α6) (x7 : α7) (x8 : α8) (x9 : α9) (x10 : α10) (x11 : α11) (x12 : α12) (x13 : α13), F x0 x1 x2 x3 x4 x5 x6 x7 x8 x9 x10 x11 x12 x13 → G x0 x1 x2 x3 x4 x5 x6 x7 x8 x9 x10 x11 x12 x13) → T) (rest : ∀ (x0 : α0) (x1 : α1) (x2 : α2) (x3 : α3) (x4 : α4) (x5 : α5) (x6 : α6) (x7 : α7) (x8 : α8) (x9 : α9) (x10 : α10) (x11 : α11) (x12 : α12) (x13 : α13), F x0 x1 x2 x3 x4 x5 x6 x7 x8 x9 x10 x11 x12 x13 → G x0 x1 x2 x3 x4 x5 x6 x7 x8 x9 x10 x11 x12 x13) : T := walk rest
/-- What is under way in a region that makes a list of right-hand sides: the row, the number that fracs takes, the box of the result, what fracs gave. -/
structure BSt (W : World) (y : Int) (w : World) (v : Value) (l : List (Int × Int)) (it bx : Option Nat) (fa : Option (Option Addr)) : Prop where
  bel : Below W.heap.size W w
  row : w.ownsRow W.heap.size 29 2 v l.length (fc l)
  ints : ∀ H, it = some H → w.heap[H]? = some (.cells #[.int .i64 y] 3 (0, 0))
  box : ∀ H, bx = some H → Own2 w H 0 0 ∧ v.ownBlock ≠ some H ∧ W.heap.size ≤ H
  fac : ∀ A, fa = some A → FactsAt w w.heap.size A [(y, 1)]
section
variable {W w w' : World} {y : Int} {v v' : Value} {l l2 L : List (Int × Int)} {it bx : Option Nat} {fa : Option (Option Addr)} {K : Act → World → Prop} {a : Act} {A : Option Addr} {c : Nat}
theorem BSt.start (W : World) (y : Int) : BSt W y W.drew (.slice none 0 0) [] none none none :=
  ⟨(Below.refl _ _).drew, World.ownsRow_nil _ _ _ _, (fun H h => nomatch h), (fun H h => nomatch h), (fun A h => nomatch h)⟩
theorem BSt.base (h : BSt W y w v l it bx fa) : W.heap.size ≤ w.heap.size := h.bel.size
theorem drew_sz (w : World) : w.drew.heap.size = w.heap.size := rfl
theorem blk_lt {w : World} {H : Nat} {o : Obj} (h : w.heap[H]? = some o) : H < w.heap.size := (Array.getElem?_eq_some_iff.1 h).1
theorem BSt.up (h : BSt W y w v l it bx fa) (hb : Below w.heap.size w w') : BSt W y w' v l it bx fa :=
  ⟨h.bel.trans (hb.mono h.base), own_below h.row hb, fun H e => (hb.block H (blk_lt (h.ints H e))).trans (h.ints H e), fun H e => ⟨(h.box H e).1.up hb, (h.box H e).2⟩, fun A e => factsAt_up (h.fac A e) hb⟩
theorem BSt.k3 (h : BSt W y w v l it bx fa) (hk : ∀ wN, BSt W y wN (.slice (some ⟨w.heap.size, 0, none⟩) 0 0) [] it bx fa → K a wN) : K a (w.alloc (.cells #[] 29)) := by
  have hu := h.up ((Below.refl w.heap.size w).alloc (Nat.le_refl _) (.cells #[] 29))
  refine hk _ ⟨hu.bel, own_built (B := W.heap.size) (e := 29) (s := 2) w #[] 0 h.base (by simp [maxLen]) rfl, hu.ints, fun H e => ⟨(hu.box H e).1, fun e2 => ?_, (hu.box H e).2.2⟩, hu.fac⟩
  have := (h.box H e).1.lt
  have e3 : w.heap.size = H := by simpa [Value.ownBlock] using e2
  omega
theorem BSt.k9 (h : BSt W y w v l it bx fa) (hk : ∀ wN, BSt W y wN v l (some w.heap.size) bx fa → K a wN) : K a (w.alloc (.cells #[.int .i64 y] 3)) := by
  have hu := h.up ((Below.refl w.heap.size w).alloc (Nat.le_refl _) (.cells #[.int .i64 y] 3))
  exact hk _ ⟨hu.bel, hu.row, fun H e => by cases e; exact heap_alloc_new _ _, hu.box, hu.fac⟩
theorem BSt.k18 (h : BSt W y w v l it bx fa) (hk : ∀ wN, BSt W y wN v l it (some w.heap.size) fa → K a wN) : K a (w.alloc (.cells #[.int .i64 0, .int .i64 0] 29)) := by
  have hu := h.up ((Below.refl w.heap.size w).alloc (Nat.le_refl _) (.cells #[.int .i64 0, .int .i64 0] 29))
  refine hk _ ⟨hu.bel, hu.row, hu.ints, fun H e => ?_, hu.fac⟩
  cases e
  exact ⟨Own2.new, fun e2 => by have := (h.row.lt _ e2).2; omega, h.base⟩
theorem BSt.app (h : BSt W y w v l it bx fa) (ho : w'.ownsRow W.heap.size 29 2 v' (l.length + l2.length) (fc l ++ fc l2)) (hg : w.grownBy w' v.ownBlock) (hat : v'.ownBlock = v.ownBlock ∨ v'.ownBlock = some w.heap.size) (hL : l ++ l2 = L) : BSt W y w' v' L it bx none where
  bel := Below.grown h.bel hg h.base fun g e => (h.row.lt g e).1
  row := by rw [← hL, List.length_append, fc_app]; exact ho
  ints := fun H e => by
    have h1 := h.ints H e
    refine (hg.block H (blk_lt h1) fun e2 => ?_).trans h1
    rcases h.row.2 with ⟨rfl, _⟩ | ⟨g, cap, cur, rfl, _, hg', _⟩
    · cases e2
    · have e3 : H = g := by simpa [Value.ownBlock] using e2
      rw [e3, hg'] at h1
      injection h1 with h1
      injection h1 with _ ht
      exact absurd ht (by decide)
  box := fun H e => by
    obtain ⟨h1, h2, h3⟩ := h.box H e
    have he : w'.heap[H]? = w.heap[H]? := hg.block H h1.lt (Ne.symm h2)
    refine ⟨⟨Nat.lt_of_lt_of_le h1.lt hg.size, (World.cell?_of_block (a := ⟨H, 0, none⟩) he).trans h1.c0, (World.cell?_of_block (a := ⟨H, 1, none⟩) he).trans h1.c1, (World.frozen?_of_block (a := ⟨H, 0, none⟩) he).trans h1.f0, (World.frozen?_of_block (a := ⟨H, 1, none⟩) he).trans h1.f1⟩, ?_, h3⟩
    rcases hat with e2 | e2
    · rw [e2]; exact h2
    · rw [e2]
      intro e3
      injection e3 with e3
      have := h1.lt
      omega
  fac := fun A e => nomatch e
theorem BSt.call (h : BSt W y w v l it bx fa) (hb : Below w.heap.size w w') (hF : FactsAt w' w'.heap.size A [(y, 1)]) : BSt W y w' v l it bx (some A) :=
  have hu := h.up hb
  ⟨hu.bel, hu.row, hu.ints, hu.box, fun A' e => by cases e; exact hF⟩
theorem BSt.int (h : BSt W y w v l it bx fa) {H : Nat} (e : it = some H) : IntsAt w w.heap.size (some ⟨H, 0, none⟩) [y] := block_ints (l := [y]) (h.ints H e) (by simp)
theorem BSt.facts (h : BSt W y w (.slice A l.length c) l it bx fa) (hl : l.length ≤ 1000) : FactsAt w w.heap.size A l := by
  obtain ⟨A', c', e, _, hF⟩ := own_fracs h.row (by omega)
  injection e with e1 _ _
  rw [e1]; exact hF
end
/-- What Solve returns, for the test whether the program is unbounded. -/
theorem sol_any {c b : List (Int × Int)} {R : List (List (Int × Int))} {e : Ending} {w' : World} (h : SolRet c R b e w') : ∃ p q x y cd, e = .returned (.tuple #[.agg #[.int .i64 p, .int .i64 q], x, y, errV cd]) ∧ (cd = 3 → chk37 c R b = 0 ∧ Unb c.length R.length (fr37 R) (rl b) (rl c)) := by
  rcases h with ⟨hne, he⟩ | ⟨h0, ⟨cd, hf, he⟩ | ⟨T, hf, bx, bY, he, _, _⟩⟩
  · refine ⟨0, 0, .slice none 0 0, .slice none 0 0, chk37 c R b, by rw [errV_ne hne]; exact he, fun h3 => ?_⟩
    unfold chk37 at h3
    repeat (split at h3; · exact absurd h3 (by decide))
    exact absurd h3 (by decide)
  · refine ⟨0, 0, .slice none 0 0, .slice none 0 0, cd, ?_, fun h3 => ?_⟩
    · rw [errV_ne ?_]
      · exact he
      · rcases fin_cases hf with ⟨T, h⟩ | h | h
        · cases h
        · injection h with h; subst h; decide
        · injection h with h; subst h; decide
    · subst h3
      refine ⟨h0, fin_unb (fun i hi => ?_) hf⟩
      obtain ⟨_, _, h3, _, _, h6, _, h8⟩ := chk_zero h0
      have := (rl_num (prL_iff.1 h6 i (by omega))).1
      exact Rat.num_nonneg.1 (by rw [this]; exact h8 i (by omega))
  · exact ⟨_, _, _, _, 0, he, fun h3 => absurd h3 (by decide)⟩

set_option maxRecDepth 4000 in
set_option maxHeartbeats 1000000 in
theorem fracsz_any (l : List Int) (A : Option Addr) (c : Nat) (w : World) (h : IntsAt w w.heap.size A l) (hl : l.length ≤ 100) :
    Calls Try.prog 17 #[.slice A l.length c] w fun e w' => (∃ A' c', e = .returned (.slice A' l.length c') ∧ (A' = none → c' = 0) ∧ FactsAt w' w'.heap.size A' (l.map fun x => (x, 1))) ∧ Below w.heap.size w w' := by
  obtain ⟨inf, hi, iz0, iz1, iz2⟩ := info_parts infoC
  have lh := h.1
  go_enter Try.func17, Try.ntmps17
  go_wp2
  go_loopw [3, 8] (fun v i wr => ∃ (k : Nat) (A' : Option Addr) (c' : Nat), k ≤ l.length ∧ i = .int .i64 k ∧ v = .slice A' k c' ∧ Hid (wr.ownsRow w.heap.size 29 2 (.slice A' k c') (frl l k).length (fc (frl l k))) ∧ Below w.heap.size w wr) (fun _ i _ => l.length - (intOf i).toNat)
  case atStart => exact ⟨0, none, 0, by omega, rfl, rfl, Lib.hid (World.ownsRow_nil _ _ _ _), Below.refl _ _⟩
  case round =>
    obtain ⟨k, A', c', hk, rfl, rfl, hown, hbel⟩ := hrel
    have hbz := hbel.size
    have Hl := Lib.hid (frl_len (l := l) (k := k) hk)
    by_cases hlt : k < l.length
    · obtain ⟨b1, o1, ea, hb1, hc1⟩ := h.2 (by omega)
      subst ea
      have d1 := (hbel.cell (p := ⟨b1, o1 + k, none⟩) hb1).trans (hc1 k hlt)
      have g1 : b1 < wr.heap.size := by omega
      have k0 : (0 : Int) ≤ (k : Int) := by omega
      have k1 : (k : Int) < (l.length : Int) := by omega
      have Hl2 := Lib.hid (frl_len (l := l) (k := k + 1) hlt)
      have HS := Lib.hid (frl_succ hlt)
      clear hc1
      go_wp2_with (at_builtin; refine wpList_push rfl _ _ 22 rfl w.heap.size 29 inf (.agg #[.int .i64 0, .int .i64 0]) 2 16 undC hi iz0 iz1 iz2 rfl (by decide) (by decide) _ (frl l k).length (fc (frl l k)) rfl (hown.out.alloc _) wr.heap.size 29 [.int .i64 (nth l k), .int .i64 1] rfl rfl (heap_alloc_new _ _) (two_one rfl rfl) (by have := Hl.out; omega) (by first | omega | (simp; omega)) (B := w.heap.size) (W := w) (hbel.alloc hbz _) (Nat.le_refl _) ?_; intro v8 w8 ho8 hg8 hat8 hb8; have ho9 : w8.ownsRow w.heap.size 29 2 v8 (frl l (k + 1)).length (fc (frl l (k + 1))) := (by rw [HS.out, List.length_append, fc_app]; exact ho8); obtain ⟨A8, c8, rfl⟩ := own_shapeL ho9 Hl2.out; have Ho9 := Lib.hid ho9; clear ho8 ho9 hg8 hat8)
      go_roundw
      case rel => exact ⟨k + 1, A8, c8, by omega, by go_num, rfl, Ho9, hb8⟩
      case measure => simp [intOf]; omega
    · obtain rfl : l.length = k := by omega
      obtain ⟨A9, c9, hv, hz, hF⟩ := own_fracs hown.out (by have := Hl.out; omega)
      injection hv with hv1 hv2 hv3
      subst hv1 hv3
      have HF := Lib.hid hF
      have HZ := Lib.hid hz
      clear hv2 hF hz hown
      go_wp2
      go_ret
      exact ⟨⟨A', c', rfl, HZ.out, by have := HF.out; rw [frl_all] at this; exact this⟩, hbel⟩

set_option maxRecDepth 100000 in
set_option maxHeartbeats 8000000 in
theorem simplexUnbounded_any (c : List (Int × Int)) (R : List (List (Int × Int))) (b : List (Int × Int)) (Ac AR Ab : Option Addr) (cc cR cb : Nat) (x : Int) (w : World) (hc : FactsAt w w.heap.size Ac c) (hR : MxAt w AR R) (hb : FactsAt w w.heap.size Ab b) (zR : AR = none → cR = 0) (zb : Ab = none → cb = 0) (hx0 : 0 ≤ x) (hx1 : x ≤ 255) :
    Calls Try.prog 3 #[.agg #[.slice Ac c.length cc, .slice AR R.length cR, .slice Ab b.length cb], .int .u8 x] w fun e w' => e = .returned (.bool true) ∧ Below w.heap.size w w' := by
  have KA := Lib.hid awake37_any
  have KL := Lib.hid (fun wx (h : Below w.heap.size w wx) => large_any c R b Ac AR Ab cc cR cb wx (factsAt_up hc h) (hR.up h) (factsAt_up hb h))
  have KS := Lib.hid (fun wx (h : Below w.heap.size w wx) => solve_any c R b Ac AR Ab cc cR cb wx (factsAt_up hc h) (hR.up h) (factsAt_up hb h))
  have HC := Lib.hid (fun wx (h : Below w.heap.size w wx) => factsAt_up hc h)
  have HB := Lib.hid (fun wx (h : Below w.heap.size w wx) => factsAt_up hb h)
  have HRm := Lib.hid (fun wx (h : Below w.heap.size w wx) => hR.up h)
  have SB := Lib.hid (fun wx (h : Below w.heap.size w wx) => facts_src (factsAt_up hb h) zb)
  have KF := Lib.hid (fun (A : Option Addr) (c : Nat) (y : Int) wx (h : IntsAt wx wx.heap.size A [y]) => (fracsz_any [y] A c wx h (by simp) : Calls Try.prog 17 #[.slice A 1 c] wx fun e w' => (∃ A' c', e = .returned (.slice A' 1 c') ∧ (A' = none → c' = 0) ∧ FactsAt w' w'.heap.size A' [(y, 1)]) ∧ Below wx.heap.size wx w'))
  have KI := Lib.hid (fun cd wx => is_any cd 3 wx (by decide))
  have KI5 := Lib.hid (fun wx => (by have := is_any 5 5 wx (by decide); rw [errV_5] at this; exact this : Calls Try.prog 16 #[.iface 35 (.int .i64 5), .int .i64 5] wx fun e w' => e = .returned (.bool true) ∧ wx = w'))
  obtain ⟨xs, hxs, hsR⟩ := mx_list hR zR
  have XS := Lib.hid (fun wx (h : Below w.heap.size w wx) => hxs.up h)
  have SR := Lib.hid (fun wx (h : Below w.heap.size w wx) => (⟨hsR.none, hsR.len, fun ad e j u hj => (h.cell (by obtain ⟨b0, o0, e0, hlt, _⟩ := hR.2 (by have := (List.getElem?_eq_some_iff.1 hj).1; have := hxs.len; omega); rw [e0] at e; cases e; unfold Addr.add; split <;> exact hlt)).trans (hsR.cells ad e j u hj), hsR.one⟩ : SrcAt wx AR R.length cR 1 xs))
  have HXl := Lib.hid hxs.len
  have lc := hc.len
  have lR := hR.1
  have lb := hb.len
  clear hc hR hb zR zb hxs hsR
  obtain ⟨inf, hi, iz0, iz1, iz2⟩ := info_parts infoC
  obtain ⟨inr, hir, jz0, jz1, jz2⟩ := info_parts infoR7
  go_enter Try.func3, Try.ntmps3
  go_wp2_with fail
  refine (KA.out _).mono ?_
  rintro e w3 ⟨rfl, hb3⟩
  have hP3 := (PrgAt.new w (.slice Ac c.length cc) (.slice AR R.length cR) (.slice Ab b.length cb) 25).up hb3
  have B3 : Below w.heap.size w w3 := ((Below.refl _ _).alloc (Nat.le_refl _) _).trans (hb3.mono (by simp))
  have z3 := B3.size
  obtain ⟨P, hPP⟩ : ∃ P, P = w.heap.size := ⟨_, rfl⟩
  rw [← hPP] at hP3
  have p0 := hP3.lt
  have p1 := hP3.c0
  have p2 := hP3.c1
  have p3 := hP3.c2
  clear hb3
  rw [← hPP]
  clear hPP
  go_wp2_with fail
  refine (KL.out w3 B3).mono ?_
  rintro e w4 ⟨⟨v, rfl, hv⟩, hb4⟩
  have hP4 := hP3.up hb4
  have B4 := B3.trans (hb4.mono z3)
  have z4 := B4.size
  clear p0 p1 p2 p3 hP3 hb4 B3 z3
  have p0 := hP4.lt
  have p1 := hP4.c0
  have p2 := hP4.c1
  have p3 := hP4.c2
  cases v
  case true =>
    clear hv
    go_wp2_with fail
    refine (KA.out _).mono ?_
    rintro e w5 ⟨rfl, hb5⟩
    have B5 := B4.trans (hb5.mono z4)
    go_wp2
    go_ret
    exact ⟨rfl, B5⟩
  case false =>
    have HS16 := Lib.hid (hv rfl)
    clear hv
    go_wp2_with fail
    refine (KS.out w4 B4).mono ?_
    rintro e w5 ⟨hs, hb5⟩
    obtain ⟨p0', q0', x0, y0', cd0, rfl, hcd⟩ := sol_any hs
    have Hcd := Lib.hid hcd
    have hP5 := hP4.up hb5
    have B5 := B4.trans (hb5.mono z4)
    have z5 := B5.size
    clear p0 p1 p2 p3 hP4 hb5 B4 z4 hs hcd
    go_wp2_with fail
    have B5' := B5.alloc z5 (.cells #[.int .i64 p0', .int .i64 q0'] 29)
    have hP6 := hP5.up ((Below.refl w5.heap.size w5).alloc (Nat.le_refl _) (.cells #[.int .i64 p0', .int .i64 q0'] 29))
    by_cases h3 : cd0 = 3
    case neg =>
      have K1 := Lib.hid (fun wx => (by have := KI.out cd0 wx; rw [decide_eq_false h3] at this; exact this : Calls Try.prog 16 #[errV cd0, .int .i64 3] wx fun e w' => e = .returned (.bool false) ∧ wx = w'))
      clear h3
      refine (K1.out _).mono ?_
      rintro e _ ⟨rfl, rfl⟩
      go_wp2
      go_ret
      exact ⟨rfl, B5'⟩
    case pos =>
      have K1 := Lib.hid (fun wx => (by have := KI.out cd0 wx; rw [decide_eq_true h3] at this; exact this : Calls Try.prog 16 #[errV cd0, .int .i64 3] wx fun e w' => e = .returned (.bool true) ∧ wx = w'))
      have h0 := (Hcd.out h3).1
      have H0 := Lib.hid h0
      have HU := Lib.hid (Hcd.out h3).2
      clear h3 h0 Hcd
      refine (K1.out _).mono ?_
      rintro e _ ⟨rfl, rfl⟩
      have p0 := hP6.lt
      have p1 := hP6.c0
      have p2 := hP6.c1
      have p3 := hP6.c2
      go_wp2
      obtain ⟨w6, hw6⟩ : ∃ w6, w6 = w5.alloc (.cells #[.int .i64 p0', .int .i64 q0'] 29) := ⟨_, rfl⟩
      rw [← hw6] at B5' hP6 ⊢
      clear hw6 p0 p1 p2 p3 hP5 B5 z5
      have B6 := B5'
      have z6 := B6.size
      clear B5'
      go_loopw [9, 44] (fun v i wr => ∃ (k : Nat) (A' : Option Addr) (c' : Nat), k ≤ c.length ∧ i = .int .i64 k ∧ v = .slice A' k c' ∧ Hid (wr.ownsRow w6.heap.size 29 2 (.slice A' k c') (onL k).length (fc (onL k))) ∧ Below w6.heap.size w6 wr) (fun _ i _ => c.length - (intOf i).toNat)
      case atStart => exact ⟨0, none, 0, by omega, rfl, rfl, Lib.hid (World.ownsRow_nil _ _ _ _), Below.refl _ _⟩
      case round =>
        obtain ⟨k, A', c', hk, rfl, rfl, hown, hbel⟩ := hrel
        have hbz := hbel.size
        have Hl1 := Lib.hid (onL_len k)
        have Hl2 := Lib.hid (onL_len (k + 1))
        have HSc := Lib.hid (onL_succ k)
        by_cases hltk : k < c.length
        · go_wp2_with (at_builtin; refine wpList_push rfl _ _ 22 rfl w6.heap.size 29 inf (.agg #[.int .i64 0, .int .i64 0]) 2 16 undC hi iz0 iz1 iz2 rfl (by decide) (by decide) _ (onL k).length (fc (onL k)) rfl (hown.out.alloc _) wr.heap.size 29 [.int .i64 1, .int .i64 1] rfl rfl (heap_alloc_new _ _) (two_one rfl rfl) (by have := Hl1.out; have := HS16.out; omega) (by first | omega | (simp; omega)) (B := w6.heap.size) (W := w6) (hbel.alloc hbz _) (Nat.le_refl _) ?_; intro v8 w8 ho8 hg8 hat8 hb8; have ho9 : w8.ownsRow w6.heap.size 29 2 v8 (onL (k + 1)).length (fc (onL (k + 1))) := (by rw [HSc.out, List.length_append, fc_app]; exact ho8); obtain ⟨A8, c8, rfl⟩ := own_shapeL ho9 Hl2.out; have Ho9 := Lib.hid ho9; clear ho8 ho9 hg8 hat8)
          go_roundw
          case rel => exact ⟨k + 1, A8, c8, by omega, by go_num, rfl, Ho9, hb8⟩
          case measure => simp [intOf]; omega
        · obtain rfl : c.length = k := by omega
          obtain ⟨w7, hw7⟩ : ∃ w7 : World, w7 = wr := ⟨_, rfl⟩
          rw [← hw7] at hown hbel hbz ⊢
          clear hw7
          obtain ⟨A'', c'', e7, hz7, hF7⟩ := own_fracs hown.out (by have := Hl1.out; have := HS16.out; omega)
          injection e7 with e71 e72 e73
          subst e71 e73
          have HF7 := Lib.hid hF7
          have HZ7 := Lib.hid hz7
          clear hown e72 hF7 hz7 Hl2 HSc
          have hP7 := hP6.up hbel
          have B7 := B6.trans (hbel.mono z6)
          have z7 := B7.size
          have p0 := hP7.lt
          have p1 := hP7.c0
          have p2 := hP7.c1
          have p3 := hP7.c2
          have hsm := HS16.out
          have hxl := HXl.out
          have HXl2 := Lib.hid hxl
          clear hbel hbz B6 z6 hP6 hxl
          go_upto_region 12 with (first | (at_builtin; refine wpList_append_src rfl _ _ 23 rfl w7.heap.size 22 inr (.slice none 0 0) 1 24 undR7 hir jz0 jz1 jz2 rfl (by decide) (.slice (some ⟨w7.heap.size, 0, none⟩) 0 0) 0 [] rfl (own_built (B := w7.heap.size) (e := 22) (s := 1) w7 #[] 0 (Nat.le_refl _) (by simp [maxLen]) rfl) AR R.length cR xs rfl (SR.out _ (B7.alloc z7 _)) (by unfold maxLen; omega) (by omega) (by simp) ?_; intro v8 w8 ho8 hg8 hat8; simp only [Nat.zero_add, List.nil_append] at ho8; have hb8 : Below w7.heap.size w7 w8 := Below.grown (show Below w7.heap.size w7 (w7.alloc (.cells #[] 22)) from (Below.refl _ _).alloc (Nat.le_refl _) _) hg8 (by simp) (fun g h => by cases h; exact Nat.le_refl _); have Ho8 := Lib.hid ho8; have z8 := hb8.size; clear ho8 hg8 hat8) | (at_builtin; refine wpList_push rfl _ _ 23 rfl w7.heap.size 22 inr (.slice none 0 0) 1 24 undR7 hir jz0 jz1 jz2 rfl (by decide) (by decide) _ R.length xs rfl (Ho8.out.alloc _) w8.heap.size 22 [.slice A' c.length c'] rfl rfl (heap_alloc_new _ _) (one_one rfl) (by omega) (by first | omega | (simp; omega)) (B := w7.heap.size) (W := w7) (hb8.alloc z8 _) (Nat.le_refl _) ?_; intro v9 w9 ho9 hg9 hat9 hb9; have Ho9 := Lib.hid ho9; clear ho9 hg9 hat9))
          have hP9 := hP7.up hb9
          have B9 := B7.trans (hb9.mono z7)
          have z9 := B9.size
          obtain ⟨Ra, hRa⟩ : ∃ Ra, Ra = R ++ [onL c.length] := ⟨_, rfl⟩
          have hla : Ra.length = R.length + 1 := by rw [hRa, List.length_append]; rfl
          have hsl : Sls w9 Ra (xs ++ [.slice A' c.length c']) := by
            rw [hRa]
            have h1 := (XS.out _ B9).push (o := onL c.length) HZ7.out (factsAt_up HF7.out hb9)
            rw [Hl1.out] at h1
            exact h1
          obtain ⟨Aa, ca, hva, hMa⟩ := mx_of_own (v := v9) (own_len Ho9.out hla.symm) hsl (by omega)
          subst hva
          have HMa := Lib.hid hMa
          have HRa := Lib.hid hRa
          have HLa := Lib.hid hla
          obtain ⟨LB, hLB⟩ : ∃ LB, LB = b ++ [(x, 1)] := ⟨_, rfl⟩
          obtain ⟨LC, hLC⟩ : ∃ LC, LC = b ++ [(x + 1, 1)] := ⟨_, rfl⟩
          have HLB := Lib.hid hLB
          have HLC := Lib.hid hLC
          have HLLB := Lib.hid (show LB.length ≤ 1000 by rw [hLB, List.length_append]; show b.length + 1 ≤ 1000; omega)
          have HLLC := Lib.hid (show LC.length ≤ 1000 by rw [hLC, List.length_append]; show b.length + 1 ≤ 1000; omega)
          obtain ⟨xn, hxn⟩ : ∃ xn : Nat, x = (xn : Int) := ⟨x.toNat, by omega⟩
          have HXn := Lib.hid hxn
          have hxn1 : xn ≤ 255 := by omega
          have ex : IntKind.i64.wrap x = x := IntWalk.i64_in x (by omega)
          have ex1 : IntKind.i64.wrap (x + 1) = x + 1 := IntWalk.i64_in _ (by omega)
          have KSB := Lib.hid (fun A1 c1 wx (h : Below w9.heap.size w9 wx) (hF : FactsAt wx wx.heap.size A1 LB) => ((solve_any c Ra LB Ac Aa A1 cc ca c1 wx (HC.out _ (B9.trans (h.mono z9))) (HMa.out.up h) hF).mono fun e w' ⟨h1, h2⟩ => ⟨bnd_res (β := xn) H0.out (by omega) (by omega) (by rw [← HRa.out, ← HXn.out, ← HLB.out]; exact h1), h2⟩ : Calls Try.prog 15 #[.slice Ac c.length cc, .slice Aa Ra.length ca, .slice A1 LB.length c1] wx fun e w' => (∃ p q cd x y, e = .returned (.tuple #[.agg #[.int .i64 p, .int .i64 q], x, y, errV cd]) ∧ ValR c.length (R.length + 1) (fr37 (R ++ [onL c.length])) (rl (b ++ [((xn : Int), 1)])) (rl c) p q cd) ∧ Below wx.heap.size wx w'))
          have KSC := Lib.hid (fun A1 c1 wx (h : Below w9.heap.size w9 wx) (hF : FactsAt wx wx.heap.size A1 LC) => ((solve_any c Ra LC Ac Aa A1 cc ca c1 wx (HC.out _ (B9.trans (h.mono z9))) (HMa.out.up h) hF).mono fun e w' ⟨h1, h2⟩ => ⟨bnd_res (β := xn + 1) H0.out (by omega) (by omega) (by rw [← HRa.out, show ((xn + 1 : Nat) : Int) = x + 1 by rw [HXn.out]; rfl, ← HLC.out]; exact h1), h2⟩ : Calls Try.prog 15 #[.slice Ac c.length cc, .slice Aa Ra.length ca, .slice A1 LC.length c1] wx fun e w' => (∃ p q cd x y, e = .returned (.tuple #[.agg #[.int .i64 p, .int .i64 q], x, y, errV cd]) ∧ ValR c.length (R.length + 1) (fr37 (R ++ [onL c.length])) (rl (b ++ [(((xn + 1 : Nat) : Int), 1)])) (rl c) p q cd) ∧ Below wx.heap.size wx w'))
          have SBB := Lib.hid (fun wx (h : Below w9.heap.size w9 wx) => SB.out wx (B9.trans (h.mono z9)))
          clear hRa hla hsl hMa hLB hLC hxn hb9 hP7 B7 z7 Ho9 Ho8 hb8 z8 p0 p1 p2 p3 HF7 HZ7 Hl1 hsm
          have p0 := hP9.lt
          have p1 := hP9.c0
          have p2 := hP9.c1
          have p3 := hP9.c2
          go_cut [11, 12, 13, 14] (fun v11 v12 v13 v14 wx => ∃ H p q cd, v11 = .pointer (some ⟨H, 0, none⟩) ∧ v14 = errV cd ∧ Own2 wx H p q ∧ Hid (ValR c.length (R.length + 1) (fr37 (R ++ [onL c.length])) (rl (b ++ [((xn : Int), 1)])) (rl c) p q cd) ∧ Below w9.heap.size w9 wx)
          case first =>
            go_wp2_with fail
            refine wp_region_G 12 (fun w' => ∀ b o, w'.cell? ⟨b, o, none⟩ = if b < w9.heap.size then w9.cell? ⟨b, o, none⟩ else hidC w' b o) (by kernel_rfl) (cif (B := w9.heap.size) (W := w9) (Below.refl _ _).drew) ?_
            apply merge14 (F := fun (wC : World) (X3 : Nat) (v6 : Value) (Y9 : Nat) (A8 : Option Addr) (c8 : Nat) (A9 : Option Addr) (c9 : Nat) (p : Int) (q : Int) (cd : Int) (xx : Value) (yy : Value) (H18 : Nat) => (Own2 wC H18 p q) ∧ (Below w9.heap.size w9 wC) ∧ (ValR c.length (R.length + 1) (fr37 (R ++ [onL c.length])) (rl (b ++ [((xn : Int), 1)])) (rl c) p q cd))
            · intro nd3_6_9_10_11_12_18_19
              apply merge14 (F := fun (wC : World) (X3 : Nat) (v6 : Value) (Y9 : Nat) (A8 : Option Addr) (c8 : Nat) (A9 : Option Addr) (c9 : Nat) (p : Int) (q : Int) (cd : Int) (xx : Value) (yy : Value) (H18 : Nat) => (BSt w9 x wC (.slice A9 LB.length c9) LB (some Y9) (some H18) none) ∧ (ValR c.length (R.length + 1) (fr37 (R ++ [onL c.length])) (rl (b ++ [((xn : Int), 1)])) (rl c) p q cd))
              · intro nd3_6_9_10_11_12_18
                apply merge13 (F := fun (wC : World) (X3 : Nat) (v6 : Value) (Y9 : Nat) (A8 : Option Addr) (c8 : Nat) (A9 : Option Addr) (c9 : Nat) (p : Int) (q : Int) (cd : Int) (xx : Value) (yy : Value) => (BSt w9 x wC (.slice A9 LB.length c9) LB (some Y9) none none) ∧ (ValR c.length (R.length + 1) (fr37 (R ++ [onL c.length])) (rl (b ++ [((xn : Int), 1)])) (rl c) p q cd))
                · intro nd3_6_9_10_11_12
                  apply merge9 (F := fun (wC : World) (X3 : Nat) (v6 : Value) (Y9 : Nat) (A8 : Option Addr) (c8 : Nat) (A9 : Option Addr) (c9 : Nat) (H18 : Nat) => (BSt w9 x wC (.slice A9 LB.length c9) LB (some Y9) (some H18) none))
                  · intro nd3_6_9_10_11_18
                    apply merge7 (F := fun (wC : World) (X3 : Nat) (v6 : Value) (Y9 : Nat) (A8 : Option Addr) (c8 : Nat) (H18 : Nat) => (BSt w9 x wC (v6) b (some Y9) (some H18) (some A8)) ∧ (A8 = none → c8 = 0))
                    · intro nd3_6_9_10_18
                      apply merge8 (F := fun (wC : World) (X3 : Nat) (v6 : Value) (Y9 : Nat) (A8 : Option Addr) (c8 : Nat) (A9 : Option Addr) (c9 : Nat) => (BSt w9 x wC (.slice A9 LB.length c9) LB (some Y9) none none))
                      · intro nd3_6_9_10_11
                        apply merge5 (F := fun (wC : World) (X3 : Nat) (v6 : Value) (Y9 : Nat) (H18 : Nat) => (BSt w9 x wC (v6) b (some Y9) (some H18) none))
                        · intro nd3_6_9_18
                          apply merge6 (F := fun (wC : World) (X3 : Nat) (v6 : Value) (Y9 : Nat) (A8 : Option Addr) (c8 : Nat) => (BSt w9 x wC (v6) b (some Y9) none (some A8)) ∧ (A8 = none → c8 = 0))
                          · intro nd3_6_9_10
                            apply merge4 (F := fun (wC : World) (X3 : Nat) (Y9 : Nat) (H18 : Nat) => (BSt w9 x wC (.slice (some ⟨X3, 0, none⟩) 0 0) [] (some Y9) (some H18) none))
                            · intro nd3_9_18
                              apply merge4 (F := fun (wC : World) (X3 : Nat) (v6 : Value) (H18 : Nat) => (BSt w9 x wC (v6) b none (some H18) none))
                              · intro nd3_6_18
                                apply merge4 (F := fun (wC : World) (X3 : Nat) (v6 : Value) (Y9 : Nat) => (BSt w9 x wC (v6) b (some Y9) none none))
                                · intro nd3_6_9
                                  apply merge3 (F := fun (wC : World) (Y9 : Nat) (H18 : Nat) => (BSt w9 x wC (.slice none 0 0) [] (some Y9) (some H18) none))
                                  · intro nd9_18
                                    apply merge3 (F := fun (wC : World) (X3 : Nat) (H18 : Nat) => (BSt w9 x wC (.slice (some ⟨X3, 0, none⟩) 0 0) [] none (some H18) none))
                                    · intro nd3_18
                                      apply merge3 (F := fun (wC : World) (X3 : Nat) (Y9 : Nat) => (BSt w9 x wC (.slice (some ⟨X3, 0, none⟩) 0 0) [] (some Y9) none none))
                                      · intro nd3_9
                                        apply merge3 (F := fun (wC : World) (X3 : Nat) (v6 : Value) => (BSt w9 x wC (v6) b none none none))
                                        · intro nd3_6
                                          apply merge2 (F := fun (wC : World) (H18 : Nat) => (BSt w9 x wC (.slice none 0 0) [] none (some H18) none))
                                          · intro nd18
                                            apply merge2 (F := fun (wC : World) (Y9 : Nat) => (BSt w9 x wC (.slice none 0 0) [] (some Y9) none none))
                                            · intro nd9
                                              apply merge2 (F := fun (wC : World) (X3 : Nat) => (BSt w9 x wC (.slice (some ⟨X3, 0, none⟩) 0 0) [] none none none))
                                              · intro nd3
                                                intro g0
                                                have ST := Lib.hid (BSt.start w9 x)
                                                generalize World.drew w9 = wC at ST g0 ⊢
                                                refine wpAnyG_any (i := 0) (v := ?_) rfl g0 (by kernel_rfl) (by kernel_rfl) (by kernel_rfl) rfl (fun _ _ _ h => h) (Or.inl ⟨by rfl, ?_⟩) ?_; rotate_left; (intro wS hSw; (try dsimp only at hSw); first | (go_simp; done) | (go_simp; with_reducible rfl) | (simp [go_sem, ↓IntWalk.iteOmega, *]; done) | (simp [go_sem, ↓IntWalk.iteOmega, *]; with_reducible rfl)); (intro g1); clear g0; (try simp only [Act.put, List.setIfInBounds_toArray, List.set_cons_zero, List.set_cons_succ, List.getElem_toArray, List.getElem_cons_succ, List.getElem_cons_zero])
                                                refine wpAnyG_take (i := 1) (v := ?_) rfl g1 (by kernel_rfl) (by kernel_rfl) (by kernel_rfl) rfl (by kernel_rfl) (fun _ _ _ h => h) (Or.inl ⟨by rfl, ?_⟩) ?_; rotate_left; (intro wS hSw; (try dsimp only at hSw); first | (go_simp; done) | (go_simp; with_reducible rfl) | (simp [go_sem, ↓IntWalk.iteOmega, *]; done) | (simp [go_sem, ↓IntWalk.iteOmega, *]; with_reducible rfl)); (intro g2); clear g1; (try simp only [Act.put, List.setIfInBounds_toArray, List.set_cons_zero, List.set_cons_succ, List.getElem_toArray, List.getElem_cons_succ, List.getElem_cons_zero])
                                                refine wpAnyG_any (i := 2) (v := ?_) rfl g2 (by kernel_rfl) (by kernel_rfl) (by kernel_rfl) rfl (fun _ _ _ h => h) (Or.inl ⟨by rfl, ?_⟩) ?_; rotate_left; (intro wS hSw; (try dsimp only at hSw); first | (go_simp; done) | (go_simp; with_reducible rfl) | (simp [go_sem, ↓IntWalk.iteOmega, *]; done) | (simp [go_sem, ↓IntWalk.iteOmega, *]; with_reducible rfl)); (intro g3); clear g2; (try simp only [Act.put, List.setIfInBounds_toArray, List.set_cons_zero, List.set_cons_succ, List.getElem_toArray, List.getElem_cons_succ, List.getElem_cons_zero])
                                                refine wpAnyG_any (i := 4) (v := ?_) rfl g3 (by kernel_rfl) (by kernel_rfl) (by kernel_rfl) rfl (fun _ _ _ h => h) (Or.inl ⟨by rfl, ?_⟩) ?_; rotate_left; (intro wS hSw; (try dsimp only at hSw); first | (go_simp; done) | (go_simp; with_reducible rfl) | (simp [go_sem, ↓IntWalk.iteOmega, *]; done) | (simp [go_sem, ↓IntWalk.iteOmega, *]; with_reducible rfl)); (intro g4); clear g3; (try simp only [Act.put, List.setIfInBounds_toArray, List.set_cons_zero, List.set_cons_succ, List.getElem_toArray, List.getElem_cons_succ, List.getElem_cons_zero])
                                                refine wpAnyG_take (i := 5) (v := ?_) rfl g4 (by kernel_rfl) (by kernel_rfl) (by kernel_rfl) rfl (by kernel_rfl) (fun _ _ _ h => h) (Or.inl ⟨by rfl, ?_⟩) ?_; rotate_left; (intro wS hSw; (try dsimp only at hSw); first | (go_simp; done) | (go_simp; with_reducible rfl) | (simp [go_sem, ↓IntWalk.iteOmega, *]; done) | (simp [go_sem, ↓IntWalk.iteOmega, *]; with_reducible rfl)); (intro g5); clear g4; (try simp only [Act.put, List.setIfInBounds_toArray, List.set_cons_zero, List.set_cons_succ, List.getElem_toArray, List.getElem_cons_succ, List.getElem_cons_zero])
                                                refine wpAnyG_any (i := 7) (v := ?_) rfl g5 (by kernel_rfl) (by kernel_rfl) (by kernel_rfl) rfl (fun _ _ _ h => h) (Or.inl ⟨by rfl, ?_⟩) ?_; rotate_left; (intro wS hSw; (try dsimp only at hSw); first | (go_simp; done) | (go_simp; with_reducible rfl) | (simp [go_sem, ↓IntWalk.iteOmega, *]; done) | (simp [go_sem, ↓IntWalk.iteOmega, *]; with_reducible rfl)); (intro g6); clear g5; (try simp only [Act.put, List.setIfInBounds_toArray, List.set_cons_zero, List.set_cons_succ, List.getElem_toArray, List.getElem_cons_succ, List.getElem_cons_zero])
                                                refine wpAnyG_any (i := 8) (v := ?_) rfl g6 (by kernel_rfl) (by kernel_rfl) (by kernel_rfl) rfl (fun _ _ _ h => h) (Or.inl ⟨by rfl, ?_⟩) ?_; rotate_left; (intro wS hSw; (try dsimp only at hSw); first | (go_simp; done) | (go_simp; with_reducible rfl) | (simp [go_sem, ↓IntWalk.iteOmega, *]; done) | (simp [go_sem, ↓IntWalk.iteOmega, *]; with_reducible rfl)); (intro g7); clear g6; (try simp only [Act.put, List.setIfInBounds_toArray, List.set_cons_zero, List.set_cons_succ, List.getElem_toArray, List.getElem_cons_succ, List.getElem_cons_zero])
                                                have g00 := g7; clear g7; have g0 := g00; clear g00
                                                refine wpAnyG_ready (rs := [3, 9, 18]) (by kernel_rfl) (by simp) (AllG.cons rfl g0 (fun K hK => ?_) (AllG.cons rfl g0 (fun K hK => ?_) (AllG.cons rfl g0 (fun K hK => ?_) AllG.nil)))
                                                · go_simp; refine ST.out.k3 (fun wN ST' => ?_); generalize wC.heap.size = X3 at ST' ⊢; clear ST; have ST := Lib.hid ST'; clear ST'
                                                  refine hK.out _ _ (Or.inr (cif ST.out.bel)) (fun g1 => ?_); clear hK g0; (try simp only [Act.put, List.setIfInBounds_toArray, List.set_cons_zero, List.set_cons_succ, List.getElem_toArray, List.getElem_cons_succ, List.getElem_cons_zero])
                                                  exact node_here (nd3 wN X3 ST.out) g1
                                                · go_simp; refine ST.out.k9 (fun wN ST' => ?_); generalize wC.heap.size = Y9 at ST' ⊢; clear ST; have ST := Lib.hid ST'; clear ST'
                                                  refine hK.out _ _ (Or.inr (cif ST.out.bel)) (fun g1 => ?_); clear hK g0; (try simp only [Act.put, List.setIfInBounds_toArray, List.set_cons_zero, List.set_cons_succ, List.getElem_toArray, List.getElem_cons_succ, List.getElem_cons_zero])
                                                  exact node_here (nd9 wN Y9 ST.out) g1
                                                · go_simp; refine ST.out.k18 (fun wN ST' => ?_); generalize wC.heap.size = H18 at ST' ⊢; clear ST; have ST := Lib.hid ST'; clear ST'
                                                  refine hK.out _ _ (Or.inr (cif ST.out.bel)) (fun g1 => ?_); clear hK g0; (try simp only [Act.put, List.setIfInBounds_toArray, List.set_cons_zero, List.set_cons_succ, List.getElem_toArray, List.getElem_cons_succ, List.getElem_cons_zero])
                                                  exact node_here (nd18 wN H18 ST.out) g1
                                              · rintro wC X3 f0 g0
                                                have ST := Lib.hid f0; clear f0
                                                refine wpAnyG_ready (rs := [6, 9, 18]) (by kernel_rfl) (by simp) (AllG.cons rfl g0 (fun K hK => ?_) (AllG.cons rfl g0 (fun K hK => ?_) (AllG.cons rfl g0 (fun K hK => ?_) AllG.nil)))
                                                · refine step_append_src (by rfl) _ _ 22 (by rfl) w9.heap.size 29 inf (.agg #[.int .i64 0, .int .i64 0]) 2 16 undC hi iz0 iz1 iz2 rfl (by decide) _ _ _ (by rfl) ST.out.row Ab b.length cb (fc b) (by rfl) (SBB.out _ ST.out.bel) (by unfold maxLen; have := HS16.out; first | omega | (simp; omega)) (by have := HS16.out; first | omega | (simp; omega)) ST.out.base ?_; intro v6 wN ho8 hg8 hat8; have ST' := BSt.app (l2 := b) (L := b) ST.out ho8 hg8 hat8 rfl; clear ho8 hg8 hat8; clear ST; have ST := Lib.hid ST'; clear ST'
                                                  refine hK.out _ _ (Or.inr (cif ST.out.bel)) (fun g1 => ?_); clear hK g0; (try simp only [Act.put, List.setIfInBounds_toArray, List.set_cons_zero, List.set_cons_succ, List.getElem_toArray, List.getElem_cons_succ, List.getElem_cons_zero])
                                                  exact node_here (nd3_6 wN X3 v6 ST.out) g1
                                                · go_simp; refine ST.out.k9 (fun wN ST' => ?_); generalize wC.heap.size = Y9 at ST' ⊢; clear ST; have ST := Lib.hid ST'; clear ST'
                                                  refine hK.out _ _ (Or.inr (cif ST.out.bel)) (fun g1 => ?_); clear hK g0; (try simp only [Act.put, List.setIfInBounds_toArray, List.set_cons_zero, List.set_cons_succ, List.getElem_toArray, List.getElem_cons_succ, List.getElem_cons_zero])
                                                  exact node_here (nd3_9 wN X3 Y9 ST.out) g1
                                                · go_simp; refine ST.out.k18 (fun wN ST' => ?_); generalize wC.heap.size = H18 at ST' ⊢; clear ST; have ST := Lib.hid ST'; clear ST'
                                                  refine hK.out _ _ (Or.inr (cif ST.out.bel)) (fun g1 => ?_); clear hK g0; (try simp only [Act.put, List.setIfInBounds_toArray, List.set_cons_zero, List.set_cons_succ, List.getElem_toArray, List.getElem_cons_succ, List.getElem_cons_zero])
                                                  exact node_here (nd3_18 wN X3 H18 ST.out) g1
                                            · rintro wC Y9 f0 g0
                                              have ST := Lib.hid f0; clear f0
                                              refine wpAnyG_ready (rs := [3, 18]) (by kernel_rfl) (by simp) (AllG.cons rfl g0 (fun K hK => ?_) (AllG.cons rfl g0 (fun K hK => ?_) AllG.nil))
                                              · go_simp; refine ST.out.k3 (fun wN ST' => ?_); generalize wC.heap.size = X3 at ST' ⊢; clear ST; have ST := Lib.hid ST'; clear ST'
                                                refine hK.out _ _ (Or.inr (cif ST.out.bel)) (fun g1 => ?_); clear hK g0; (try simp only [Act.put, List.setIfInBounds_toArray, List.set_cons_zero, List.set_cons_succ, List.getElem_toArray, List.getElem_cons_succ, List.getElem_cons_zero])
                                                exact node_move (by kernel_rfl) (nd3_9 wN X3 Y9 ST.out) g1
                                              · go_simp; refine ST.out.k18 (fun wN ST' => ?_); generalize wC.heap.size = H18 at ST' ⊢; clear ST; have ST := Lib.hid ST'; clear ST'
                                                refine hK.out _ _ (Or.inr (cif ST.out.bel)) (fun g1 => ?_); clear hK g0; (try simp only [Act.put, List.setIfInBounds_toArray, List.set_cons_zero, List.set_cons_succ, List.getElem_toArray, List.getElem_cons_succ, List.getElem_cons_zero])
                                                exact node_here (nd9_18 wN Y9 H18 ST.out) g1
                                          · rintro wC H18 f0 g0
                                            have ST := Lib.hid f0; clear f0
                                            refine wpAnyG_ready (rs := [3, 9]) (by kernel_rfl) (by simp) (AllG.cons rfl g0 (fun K hK => ?_) (AllG.cons rfl g0 (fun K hK => ?_) AllG.nil))
                                            · go_simp; refine ST.out.k3 (fun wN ST' => ?_); generalize wC.heap.size = X3 at ST' ⊢; clear ST; have ST := Lib.hid ST'; clear ST'
                                              refine hK.out _ _ (Or.inr (cif ST.out.bel)) (fun g1 => ?_); clear hK g0; (try simp only [Act.put, List.setIfInBounds_toArray, List.set_cons_zero, List.set_cons_succ, List.getElem_toArray, List.getElem_cons_succ, List.getElem_cons_zero])
                                              exact node_move (by kernel_rfl) (nd3_18 wN X3 H18 ST.out) g1
                                            · go_simp; refine ST.out.k9 (fun wN ST' => ?_); generalize wC.heap.size = Y9 at ST' ⊢; clear ST; have ST := Lib.hid ST'; clear ST'
                                              refine hK.out _ _ (Or.inr (cif ST.out.bel)) (fun g1 => ?_); clear hK g0; (try simp only [Act.put, List.setIfInBounds_toArray, List.set_cons_zero, List.set_cons_succ, List.getElem_toArray, List.getElem_cons_succ, List.getElem_cons_zero])
                                              exact node_move (by kernel_rfl) (nd9_18 wN Y9 H18 ST.out) g1
                                        · rintro wC X3 v6 f0 g0
                                          have ST := Lib.hid f0; clear f0
                                          refine wpAnyG_ready (rs := [9, 18]) (by kernel_rfl) (by simp) (AllG.cons rfl g0 (fun K hK => ?_) (AllG.cons rfl g0 (fun K hK => ?_) AllG.nil))
                                          · go_simp; refine ST.out.k9 (fun wN ST' => ?_); generalize wC.heap.size = Y9 at ST' ⊢; clear ST; have ST := Lib.hid ST'; clear ST'
                                            refine hK.out _ _ (Or.inr (cif ST.out.bel)) (fun g1 => ?_); clear hK g0; (try simp only [Act.put, List.setIfInBounds_toArray, List.set_cons_zero, List.set_cons_succ, List.getElem_toArray, List.getElem_cons_succ, List.getElem_cons_zero])
                                            exact node_here (nd3_6_9 wN X3 v6 Y9 ST.out) g1
                                          · go_simp; refine ST.out.k18 (fun wN ST' => ?_); generalize wC.heap.size = H18 at ST' ⊢; clear ST; have ST := Lib.hid ST'; clear ST'
                                            refine hK.out _ _ (Or.inr (cif ST.out.bel)) (fun g1 => ?_); clear hK g0; (try simp only [Act.put, List.setIfInBounds_toArray, List.set_cons_zero, List.set_cons_succ, List.getElem_toArray, List.getElem_cons_succ, List.getElem_cons_zero])
                                            exact node_here (nd3_6_18 wN X3 v6 H18 ST.out) g1
                                      · rintro wC X3 Y9 f0 g0
                                        have ST := Lib.hid f0; clear f0
                                        refine wpAnyG_ready (rs := [6, 18]) (by kernel_rfl) (by simp) (AllG.cons rfl g0 (fun K hK => ?_) (AllG.cons rfl g0 (fun K hK => ?_) AllG.nil))
                                        · refine step_append_src (by rfl) _ _ 22 (by rfl) w9.heap.size 29 inf (.agg #[.int .i64 0, .int .i64 0]) 2 16 undC hi iz0 iz1 iz2 rfl (by decide) _ _ _ (by rfl) ST.out.row Ab b.length cb (fc b) (by rfl) (SBB.out _ ST.out.bel) (by unfold maxLen; have := HS16.out; first | omega | (simp; omega)) (by have := HS16.out; first | omega | (simp; omega)) ST.out.base ?_; intro v6 wN ho8 hg8 hat8; have ST' := BSt.app (l2 := b) (L := b) ST.out ho8 hg8 hat8 rfl; clear ho8 hg8 hat8; clear ST; have ST := Lib.hid ST'; clear ST'
                                          refine hK.out _ _ (Or.inr (cif ST.out.bel)) (fun g1 => ?_); clear hK g0; (try simp only [Act.put, List.setIfInBounds_toArray, List.set_cons_zero, List.set_cons_succ, List.getElem_toArray, List.getElem_cons_succ, List.getElem_cons_zero])
                                          exact node_move (by kernel_rfl) (nd3_6_9 wN X3 v6 Y9 ST.out) g1
                                        · go_simp; refine ST.out.k18 (fun wN ST' => ?_); generalize wC.heap.size = H18 at ST' ⊢; clear ST; have ST := Lib.hid ST'; clear ST'
                                          refine hK.out _ _ (Or.inr (cif ST.out.bel)) (fun g1 => ?_); clear hK g0; (try simp only [Act.put, List.setIfInBounds_toArray, List.set_cons_zero, List.set_cons_succ, List.getElem_toArray, List.getElem_cons_succ, List.getElem_cons_zero])
                                          exact node_here (nd3_9_18 wN X3 Y9 H18 ST.out) g1
                                    · rintro wC X3 H18 f0 g0
                                      have ST := Lib.hid f0; clear f0
                                      refine wpAnyG_ready (rs := [6, 9]) (by kernel_rfl) (by simp) (AllG.cons rfl g0 (fun K hK => ?_) (AllG.cons rfl g0 (fun K hK => ?_) AllG.nil))
                                      · refine step_append_src (by rfl) _ _ 22 (by rfl) w9.heap.size 29 inf (.agg #[.int .i64 0, .int .i64 0]) 2 16 undC hi iz0 iz1 iz2 rfl (by decide) _ _ _ (by rfl) ST.out.row Ab b.length cb (fc b) (by rfl) (SBB.out _ ST.out.bel) (by unfold maxLen; have := HS16.out; first | omega | (simp; omega)) (by have := HS16.out; first | omega | (simp; omega)) ST.out.base ?_; intro v6 wN ho8 hg8 hat8; have ST' := BSt.app (l2 := b) (L := b) ST.out ho8 hg8 hat8 rfl; clear ho8 hg8 hat8; clear ST; have ST := Lib.hid ST'; clear ST'
                                        refine hK.out _ _ (Or.inr (cif ST.out.bel)) (fun g1 => ?_); clear hK g0; (try simp only [Act.put, List.setIfInBounds_toArray, List.set_cons_zero, List.set_cons_succ, List.getElem_toArray, List.getElem_cons_succ, List.getElem_cons_zero])
                                        exact node_move (by kernel_rfl) (nd3_6_18 wN X3 v6 H18 ST.out) g1
                                      · go_simp; refine ST.out.k9 (fun wN ST' => ?_); generalize wC.heap.size = Y9 at ST' ⊢; clear ST; have ST := Lib.hid ST'; clear ST'
                                        refine hK.out _ _ (Or.inr (cif ST.out.bel)) (fun g1 => ?_); clear hK g0; (try simp only [Act.put, List.setIfInBounds_toArray, List.set_cons_zero, List.set_cons_succ, List.getElem_toArray, List.getElem_cons_succ, List.getElem_cons_zero])
                                        exact node_move (by kernel_rfl) (nd3_9_18 wN X3 Y9 H18 ST.out) g1
                                  · rintro wC Y9 H18 f0 g0
                                    have ST := Lib.hid f0; clear f0
                                    refine wpAnyG_ready (rs := [3]) (by kernel_rfl) (by simp) (AllG.cons rfl g0 (fun K hK => ?_) AllG.nil)
                                    · go_simp; refine ST.out.k3 (fun wN ST' => ?_); generalize wC.heap.size = X3 at ST' ⊢; clear ST; have ST := Lib.hid ST'; clear ST'
                                      refine hK.out _ _ (Or.inr (cif ST.out.bel)) (fun g1 => ?_); clear hK g0; (try simp only [Act.put, List.setIfInBounds_toArray, List.set_cons_zero, List.set_cons_succ, List.getElem_toArray, List.getElem_cons_succ, List.getElem_cons_zero])
                                      exact node_move (by kernel_rfl) (nd3_9_18 wN X3 Y9 H18 ST.out) g1
                                · rintro wC X3 v6 Y9 f0 g0
                                  have ST := Lib.hid f0; clear f0
                                  refine wpAnyG_ready (rs := [10, 18]) (by kernel_rfl) (by simp) (AllG.cons rfl g0 (fun K hK => ?_) (AllG.cons rfl g0 (fun K hK => ?_) AllG.nil))
                                  · go_simp; go_at_call 17; refine (KF.out _ _ _ _ (ST.out.int rfl)).mono ?_; rintro e wN ⟨⟨A8, c8, rfl, hz8, hF8⟩, hb8⟩; have ST' := ST.out.call hb8 hF8; have HZ8 := Lib.hid hz8; clear hb8 hF8 hz8; clear ST; have ST := Lib.hid ST'; clear ST'
                                    refine hK.out _ _ (Or.inr (cif ST.out.bel)) (fun g1 => ?_); clear hK g0; (try simp only [Act.put, List.setIfInBounds_toArray, List.set_cons_zero, List.set_cons_succ, List.getElem_toArray, List.getElem_cons_succ, List.getElem_cons_zero])
                                    exact node_here (nd3_6_9_10 wN X3 v6 Y9 A8 c8 ⟨ST.out, HZ8.out⟩) g1
                                  · go_simp; refine ST.out.k18 (fun wN ST' => ?_); generalize wC.heap.size = H18 at ST' ⊢; clear ST; have ST := Lib.hid ST'; clear ST'
                                    refine hK.out _ _ (Or.inr (cif ST.out.bel)) (fun g1 => ?_); clear hK g0; (try simp only [Act.put, List.setIfInBounds_toArray, List.set_cons_zero, List.set_cons_succ, List.getElem_toArray, List.getElem_cons_succ, List.getElem_cons_zero])
                                    exact node_here (nd3_6_9_18 wN X3 v6 Y9 H18 ST.out) g1
                              · rintro wC X3 v6 H18 f0 g0
                                have ST := Lib.hid f0; clear f0
                                refine wpAnyG_ready (rs := [9]) (by kernel_rfl) (by simp) (AllG.cons rfl g0 (fun K hK => ?_) AllG.nil)
                                · go_simp; refine ST.out.k9 (fun wN ST' => ?_); generalize wC.heap.size = Y9 at ST' ⊢; clear ST; have ST := Lib.hid ST'; clear ST'
                                  refine hK.out _ _ (Or.inr (cif ST.out.bel)) (fun g1 => ?_); clear hK g0; (try simp only [Act.put, List.setIfInBounds_toArray, List.set_cons_zero, List.set_cons_succ, List.getElem_toArray, List.getElem_cons_succ, List.getElem_cons_zero])
                                  exact node_move (by kernel_rfl) (nd3_6_9_18 wN X3 v6 Y9 H18 ST.out) g1
                            · rintro wC X3 Y9 H18 f0 g0
                              have ST := Lib.hid f0; clear f0
                              refine wpAnyG_ready (rs := [6]) (by kernel_rfl) (by simp) (AllG.cons rfl g0 (fun K hK => ?_) AllG.nil)
                              · refine step_append_src (by rfl) _ _ 22 (by rfl) w9.heap.size 29 inf (.agg #[.int .i64 0, .int .i64 0]) 2 16 undC hi iz0 iz1 iz2 rfl (by decide) _ _ _ (by rfl) ST.out.row Ab b.length cb (fc b) (by rfl) (SBB.out _ ST.out.bel) (by unfold maxLen; have := HS16.out; first | omega | (simp; omega)) (by have := HS16.out; first | omega | (simp; omega)) ST.out.base ?_; intro v6 wN ho8 hg8 hat8; have ST' := BSt.app (l2 := b) (L := b) ST.out ho8 hg8 hat8 rfl; clear ho8 hg8 hat8; clear ST; have ST := Lib.hid ST'; clear ST'
                                refine hK.out _ _ (Or.inr (cif ST.out.bel)) (fun g1 => ?_); clear hK g0; (try simp only [Act.put, List.setIfInBounds_toArray, List.set_cons_zero, List.set_cons_succ, List.getElem_toArray, List.getElem_cons_succ, List.getElem_cons_zero])
                                exact node_move (by kernel_rfl) (nd3_6_9_18 wN X3 v6 Y9 H18 ST.out) g1
                          · rintro wC X3 v6 Y9 A8 c8 ⟨f0, f1⟩ g0
                            have ST := Lib.hid f0; clear f0
                            have HZ8 := Lib.hid f1; clear f1
                            refine wpAnyG_ready (rs := [11, 18]) (by kernel_rfl) (by simp) (AllG.cons rfl g0 (fun K hK => ?_) (AllG.cons rfl g0 (fun K hK => ?_) AllG.nil))
                            · refine step_append_src (by rfl) _ _ 22 (by rfl) w9.heap.size 29 inf (.agg #[.int .i64 0, .int .i64 0]) 2 16 undC hi iz0 iz1 iz2 rfl (by decide) _ _ _ (by rfl) ST.out.row A8 1 c8 (fc [(x, 1)]) (by rfl) (facts_src (ST.out.fac _ rfl) HZ8.out) (by unfold maxLen; have := HS16.out; first | omega | (simp; omega)) (by have := HS16.out; first | omega | (simp; omega)) ST.out.base ?_; intro v9 wN ho9 hg9 hat9; have ST' := BSt.app (l2 := [(x, 1)]) (L := LB) ST.out ho9 hg9 hat9 HLB.out.symm; obtain ⟨A9, c9, rfl⟩ := own_shape ST'.row; clear ho9 hg9 hat9; clear ST; have ST := Lib.hid ST'; clear ST'
                              refine hK.out _ _ (Or.inr (cif ST.out.bel)) (fun g1 => ?_); clear hK g0; (try simp only [Act.put, List.setIfInBounds_toArray, List.set_cons_zero, List.set_cons_succ, List.getElem_toArray, List.getElem_cons_succ, List.getElem_cons_zero])
                              exact node_here (nd3_6_9_10_11 wN X3 v6 Y9 A8 c8 A9 c9 ST.out) g1
                            · go_simp; refine ST.out.k18 (fun wN ST' => ?_); generalize wC.heap.size = H18 at ST' ⊢; clear ST; have ST := Lib.hid ST'; clear ST'
                              refine hK.out _ _ (Or.inr (cif ST.out.bel)) (fun g1 => ?_); clear hK g0; (try simp only [Act.put, List.setIfInBounds_toArray, List.set_cons_zero, List.set_cons_succ, List.getElem_toArray, List.getElem_cons_succ, List.getElem_cons_zero])
                              exact node_here (nd3_6_9_10_18 wN X3 v6 Y9 A8 c8 H18 ⟨ST.out, HZ8.out⟩) g1
                        · rintro wC X3 v6 Y9 H18 f0 g0
                          have ST := Lib.hid f0; clear f0
                          refine wpAnyG_ready (rs := [10]) (by kernel_rfl) (by simp) (AllG.cons rfl g0 (fun K hK => ?_) AllG.nil)
                          · go_simp; go_at_call 17; refine (KF.out _ _ _ _ (ST.out.int rfl)).mono ?_; rintro e wN ⟨⟨A8, c8, rfl, hz8, hF8⟩, hb8⟩; have ST' := ST.out.call hb8 hF8; have HZ8 := Lib.hid hz8; clear hb8 hF8 hz8; clear ST; have ST := Lib.hid ST'; clear ST'
                            refine hK.out _ _ (Or.inr (cif ST.out.bel)) (fun g1 => ?_); clear hK g0; (try simp only [Act.put, List.setIfInBounds_toArray, List.set_cons_zero, List.set_cons_succ, List.getElem_toArray, List.getElem_cons_succ, List.getElem_cons_zero])
                            exact node_move (by kernel_rfl) (nd3_6_9_10_18 wN X3 v6 Y9 A8 c8 H18 ⟨ST.out, HZ8.out⟩) g1
                      · rintro wC X3 v6 Y9 A8 c8 A9 c9 f0 g0
                        have ST := Lib.hid f0; clear f0
                        refine wpAnyG_ready (rs := [12, 18]) (by kernel_rfl) (by simp) (AllG.cons rfl g0 (fun K hK => ?_) (AllG.cons rfl g0 (fun K hK => ?_) AllG.nil))
                        · go_simp; go_at_call 15; refine (KSB.out _ _ _ ST.out.bel (ST.out.facts (by have := HLLB.out; omega))).mono ?_; rintro e wN ⟨⟨p, q, cd, xx, yy, rfl, hv⟩, hb10⟩; have ST' := ST.out.up hb10; have HV := Lib.hid hv; clear hb10 hv; clear ST; have ST := Lib.hid ST'; clear ST'
                          refine hK.out _ _ (Or.inl rfl) (fun g1 => ?_); clear hK g0; (try simp only [Act.put, List.setIfInBounds_toArray, List.set_cons_zero, List.set_cons_succ, List.getElem_toArray, List.getElem_cons_succ, List.getElem_cons_zero])
                          refine wpAnyG_any (i := 13) (v := ?_) rfl g1 (by kernel_rfl) (by kernel_rfl) (by kernel_rfl) rfl (fun _ _ _ h => h) (Or.inl ⟨by rfl, ?_⟩) ?_; rotate_left; (intro wS hSw; (try dsimp only at hSw); first | (go_simp; done) | (go_simp; with_reducible rfl) | (simp [go_sem, ↓IntWalk.iteOmega, *]; done) | (simp [go_sem, ↓IntWalk.iteOmega, *]; with_reducible rfl)); (intro g2); clear g1; (try simp only [Act.put, List.setIfInBounds_toArray, List.set_cons_zero, List.set_cons_succ, List.getElem_toArray, List.getElem_cons_succ, List.getElem_cons_zero])
                          refine wpAnyG_any (i := 14) (v := ?_) rfl g2 (by kernel_rfl) (by kernel_rfl) (by kernel_rfl) rfl (fun _ _ _ h => h) (Or.inl ⟨by rfl, ?_⟩) ?_; rotate_left; (intro wS hSw; (try dsimp only at hSw); first | (go_simp; done) | (go_simp; with_reducible rfl) | (simp [go_sem, ↓IntWalk.iteOmega, *]; done) | (simp [go_sem, ↓IntWalk.iteOmega, *]; with_reducible rfl)); (intro g3); clear g2; (try simp only [Act.put, List.setIfInBounds_toArray, List.set_cons_zero, List.set_cons_succ, List.getElem_toArray, List.getElem_cons_succ, List.getElem_cons_zero])
                          refine wpAnyG_any (i := 15) (v := ?_) rfl g3 (by kernel_rfl) (by kernel_rfl) (by kernel_rfl) rfl (fun _ _ _ h => h) (Or.inl ⟨by rfl, ?_⟩) ?_; rotate_left; (intro wS hSw; (try dsimp only at hSw); first | (go_simp; done) | (go_simp; with_reducible rfl) | (simp [go_sem, ↓IntWalk.iteOmega, *]; done) | (simp [go_sem, ↓IntWalk.iteOmega, *]; with_reducible rfl)); (intro g4); clear g3; (try simp only [Act.put, List.setIfInBounds_toArray, List.set_cons_zero, List.set_cons_succ, List.getElem_toArray, List.getElem_cons_succ, List.getElem_cons_zero])
                          refine wpAnyG_any (i := 16) (v := ?_) rfl g4 (by kernel_rfl) (by kernel_rfl) (by kernel_rfl) rfl (fun _ _ _ h => h) (Or.inl ⟨by rfl, ?_⟩) ?_; rotate_left; (intro wS hSw; (try dsimp only at hSw); first | (go_simp; done) | (go_simp; with_reducible rfl) | (simp [go_sem, ↓IntWalk.iteOmega, *]; done) | (simp [go_sem, ↓IntWalk.iteOmega, *]; with_reducible rfl)); (intro g5); clear g4; (try simp only [Act.put, List.setIfInBounds_toArray, List.set_cons_zero, List.set_cons_succ, List.getElem_toArray, List.getElem_cons_succ, List.getElem_cons_zero])
                          refine wpAnyG_any (i := 17) (v := ?_) rfl g5 (by kernel_rfl) (by kernel_rfl) (by kernel_rfl) rfl (fun _ _ _ h => h) (Or.inl ⟨by rfl, ?_⟩) ?_; rotate_left; (intro wS hSw; (try dsimp only at hSw); first | (go_simp; done) | (go_simp; with_reducible rfl) | (simp [go_sem, ↓IntWalk.iteOmega, *]; done) | (simp [go_sem, ↓IntWalk.iteOmega, *]; with_reducible rfl)); (intro g6); clear g5; (try simp only [Act.put, List.setIfInBounds_toArray, List.set_cons_zero, List.set_cons_succ, List.getElem_toArray, List.getElem_cons_succ, List.getElem_cons_zero])
                          exact node_here (nd3_6_9_10_11_12 wN X3 v6 Y9 A8 c8 A9 c9 p q cd xx yy ⟨ST.out, HV.out⟩) g6
                        · go_simp; refine ST.out.k18 (fun wN ST' => ?_); generalize wC.heap.size = H18 at ST' ⊢; clear ST; have ST := Lib.hid ST'; clear ST'
                          refine hK.out _ _ (Or.inr (cif ST.out.bel)) (fun g1 => ?_); clear hK g0; (try simp only [Act.put, List.setIfInBounds_toArray, List.set_cons_zero, List.set_cons_succ, List.getElem_toArray, List.getElem_cons_succ, List.getElem_cons_zero])
                          exact node_here (nd3_6_9_10_11_18 wN X3 v6 Y9 A8 c8 A9 c9 H18 ST.out) g1
                    · rintro wC X3 v6 Y9 A8 c8 H18 ⟨f0, f1⟩ g0
                      have ST := Lib.hid f0; clear f0
                      have HZ8 := Lib.hid f1; clear f1
                      refine wpAnyG_ready (rs := [11]) (by kernel_rfl) (by simp) (AllG.cons rfl g0 (fun K hK => ?_) AllG.nil)
                      · refine step_append_src (by rfl) _ _ 22 (by rfl) w9.heap.size 29 inf (.agg #[.int .i64 0, .int .i64 0]) 2 16 undC hi iz0 iz1 iz2 rfl (by decide) _ _ _ (by rfl) ST.out.row A8 1 c8 (fc [(x, 1)]) (by rfl) (facts_src (ST.out.fac _ rfl) HZ8.out) (by unfold maxLen; have := HS16.out; first | omega | (simp; omega)) (by have := HS16.out; first | omega | (simp; omega)) ST.out.base ?_; intro v9 wN ho9 hg9 hat9; have ST' := BSt.app (l2 := [(x, 1)]) (L := LB) ST.out ho9 hg9 hat9 HLB.out.symm; obtain ⟨A9, c9, rfl⟩ := own_shape ST'.row; clear ho9 hg9 hat9; clear ST; have ST := Lib.hid ST'; clear ST'
                        refine hK.out _ _ (Or.inr (cif ST.out.bel)) (fun g1 => ?_); clear hK g0; (try simp only [Act.put, List.setIfInBounds_toArray, List.set_cons_zero, List.set_cons_succ, List.getElem_toArray, List.getElem_cons_succ, List.getElem_cons_zero])
                        exact node_move (by kernel_rfl) (nd3_6_9_10_11_18 wN X3 v6 Y9 A8 c8 A9 c9 H18 ST.out) g1
                  · rintro wC X3 v6 Y9 A8 c8 A9 c9 H18 f0 g0
                    have ST := Lib.hid f0; clear f0
                    refine wpAnyG_ready (rs := [12]) (by kernel_rfl) (by simp) (AllG.cons rfl g0 (fun K hK => ?_) AllG.nil)
                    · go_simp; go_at_call 15; refine (KSB.out _ _ _ ST.out.bel (ST.out.facts (by have := HLLB.out; omega))).mono ?_; rintro e wN ⟨⟨p, q, cd, xx, yy, rfl, hv⟩, hb10⟩; have ST' := ST.out.up hb10; have HV := Lib.hid hv; clear hb10 hv; clear ST; have ST := Lib.hid ST'; clear ST'
                      refine hK.out _ _ (Or.inl rfl) (fun g1 => ?_); clear hK g0; (try simp only [Act.put, List.setIfInBounds_toArray, List.set_cons_zero, List.set_cons_succ, List.getElem_toArray, List.getElem_cons_succ, List.getElem_cons_zero])
                      refine wpAnyG_any (i := 13) (v := ?_) rfl g1 (by kernel_rfl) (by kernel_rfl) (by kernel_rfl) rfl (fun _ _ _ h => h) (Or.inl ⟨by rfl, ?_⟩) ?_; rotate_left; (intro wS hSw; (try dsimp only at hSw); first | (go_simp; done) | (go_simp; with_reducible rfl) | (simp [go_sem, ↓IntWalk.iteOmega, *]; done) | (simp [go_sem, ↓IntWalk.iteOmega, *]; with_reducible rfl)); (intro g2); clear g1; (try simp only [Act.put, List.setIfInBounds_toArray, List.set_cons_zero, List.set_cons_succ, List.getElem_toArray, List.getElem_cons_succ, List.getElem_cons_zero])
                      refine wpAnyG_any (i := 14) (v := ?_) rfl g2 (by kernel_rfl) (by kernel_rfl) (by kernel_rfl) rfl (fun _ _ _ h => h) (Or.inl ⟨by rfl, ?_⟩) ?_; rotate_left; (intro wS hSw; (try dsimp only at hSw); first | (go_simp; done) | (go_simp; with_reducible rfl) | (simp [go_sem, ↓IntWalk.iteOmega, *]; done) | (simp [go_sem, ↓IntWalk.iteOmega, *]; with_reducible rfl)); (intro g3); clear g2; (try simp only [Act.put, List.setIfInBounds_toArray, List.set_cons_zero, List.set_cons_succ, List.getElem_toArray, List.getElem_cons_succ, List.getElem_cons_zero])
                      refine wpAnyG_any (i := 15) (v := ?_) rfl g3 (by kernel_rfl) (by kernel_rfl) (by kernel_rfl) rfl (fun _ _ _ h => h) (Or.inl ⟨by rfl, ?_⟩) ?_; rotate_left; (intro wS hSw; (try dsimp only at hSw); first | (go_simp; done) | (go_simp; with_reducible rfl) | (simp [go_sem, ↓IntWalk.iteOmega, *]; done) | (simp [go_sem, ↓IntWalk.iteOmega, *]; with_reducible rfl)); (intro g4); clear g3; (try simp only [Act.put, List.setIfInBounds_toArray, List.set_cons_zero, List.set_cons_succ, List.getElem_toArray, List.getElem_cons_succ, List.getElem_cons_zero])
                      refine wpAnyG_any (i := 16) (v := ?_) rfl g4 (by kernel_rfl) (by kernel_rfl) (by kernel_rfl) rfl (fun _ _ _ h => h) (Or.inl ⟨by rfl, ?_⟩) ?_; rotate_left; (intro wS hSw; (try dsimp only at hSw); first | (go_simp; done) | (go_simp; with_reducible rfl) | (simp [go_sem, ↓IntWalk.iteOmega, *]; done) | (simp [go_sem, ↓IntWalk.iteOmega, *]; with_reducible rfl)); (intro g5); clear g4; (try simp only [Act.put, List.setIfInBounds_toArray, List.set_cons_zero, List.set_cons_succ, List.getElem_toArray, List.getElem_cons_succ, List.getElem_cons_zero])
                      refine wpAnyG_any (i := 17) (v := ?_) rfl g5 (by kernel_rfl) (by kernel_rfl) (by kernel_rfl) rfl (fun _ _ _ h => h) (Or.inl ⟨by rfl, ?_⟩) ?_; rotate_left; (intro wS hSw; (try dsimp only at hSw); first | (go_simp; done) | (go_simp; with_reducible rfl) | (simp [go_sem, ↓IntWalk.iteOmega, *]; done) | (simp [go_sem, ↓IntWalk.iteOmega, *]; with_reducible rfl)); (intro g6); clear g5; (try simp only [Act.put, List.setIfInBounds_toArray, List.set_cons_zero, List.set_cons_succ, List.getElem_toArray, List.getElem_cons_succ, List.getElem_cons_zero])
                      exact node_here (nd3_6_9_10_11_12_18 wN X3 v6 Y9 A8 c8 A9 c9 p q cd xx yy H18 ⟨ST.out, HV.out⟩) g6
                · rintro wC X3 v6 Y9 A8 c8 A9 c9 p q cd xx yy ⟨f0, f1⟩ g0
                  have ST := Lib.hid f0; clear f0
                  have HV := Lib.hid f1; clear f1
                  refine wpAnyG_ready (rs := [18]) (by kernel_rfl) (by simp) (AllG.cons rfl g0 (fun K hK => ?_) AllG.nil)
                  · go_simp; refine ST.out.k18 (fun wN ST' => ?_); generalize wC.heap.size = H18 at ST' ⊢; clear ST; have ST := Lib.hid ST'; clear ST'
                    refine hK.out _ _ (Or.inl rfl) (fun g1 => ?_); clear hK g0; (try simp only [Act.put, List.setIfInBounds_toArray, List.set_cons_zero, List.set_cons_succ, List.getElem_toArray, List.getElem_cons_succ, List.getElem_cons_zero])
                    exact node_move (by kernel_rfl) (nd3_6_9_10_11_12_18 wN X3 v6 Y9 A8 c8 A9 c9 p q cd xx yy H18 ⟨ST.out, HV.out⟩) g1
              · rintro wC X3 v6 Y9 A8 c8 A9 c9 p q cd xx yy H18 ⟨f0, f1⟩ g0
                have ST := Lib.hid f0; clear f0
                have HV := Lib.hid f1; clear f1
                refine wpAnyG_ready (rs := [19]) (by kernel_rfl) (by simp) (AllG.cons rfl g0 (fun K hK => ?_) AllG.nil)
                · obtain ⟨hX, hXn, hXb⟩ := ST.out.box _ rfl; obtain ⟨y0, y1, y2, y3, y4⟩ := id hX; go_simp; obtain ⟨wN, hwN⟩ : ∃ wN, wN = (wC.setCell ⟨H18, 0, none⟩ (.int .i64 p)).setCell ⟨H18, 1, none⟩ (.int .i64 q) := ⟨_, rfl⟩; have HX := Lib.hid (show Own2 wN H18 p q by rw [hwN]; exact hX.put); have HE := Lib.hid (show Below w9.heap.size w9 wN by rw [hwN]; exact (ST.out.bel.setCell hXb _).setCell hXb _); rw [← hwN]; clear hwN y0 y1 y2 y3 y4 hX hXn hXb ST
                  refine hK.out _ _ (Or.inl rfl) (fun g1 => ?_); clear hK g0; (try simp only [Act.put, List.setIfInBounds_toArray, List.set_cons_zero, List.set_cons_succ, List.getElem_toArray, List.getElem_cons_succ, List.getElem_cons_zero])
                  refine wpAnyG_any (i := 20) (v := ?_) rfl g1 (by kernel_rfl) (by kernel_rfl) (by kernel_rfl) rfl (fun _ _ _ h => h) (Or.inl ⟨by rfl, ?_⟩) ?_; rotate_left; (intro wS hSw; (try dsimp only at hSw); first | (go_simp; done) | (go_simp; with_reducible rfl) | (simp [go_sem, ↓IntWalk.iteOmega, *]; done) | (simp [go_sem, ↓IntWalk.iteOmega, *]; with_reducible rfl)); (intro g2); clear g1; (try simp only [Act.put, List.setIfInBounds_toArray, List.set_cons_zero, List.set_cons_succ, List.getElem_toArray, List.getElem_cons_succ, List.getElem_cons_zero])
                  refine wpAnyG_any (i := 21) (v := ?_) rfl g2 (by kernel_rfl) (by kernel_rfl) (by kernel_rfl) rfl (fun _ _ _ h => h) (Or.inl ⟨by rfl, ?_⟩) ?_; rotate_left; (intro wS hSw; (try dsimp only at hSw); first | (go_simp; done) | (go_simp; with_reducible rfl) | (simp [go_sem, ↓IntWalk.iteOmega, *]; done) | (simp [go_sem, ↓IntWalk.iteOmega, *]; with_reducible rfl)); (intro g3); clear g2; (try simp only [Act.put, List.setIfInBounds_toArray, List.set_cons_zero, List.set_cons_succ, List.getElem_toArray, List.getElem_cons_succ, List.getElem_cons_zero])
                  refine wpAnyG_any (i := 22) (v := ?_) rfl g3 (by kernel_rfl) (by kernel_rfl) (by kernel_rfl) rfl (fun _ _ _ h => h) (Or.inl ⟨by rfl, ?_⟩) ?_; rotate_left; (intro wS hSw; (try dsimp only at hSw); first | (go_simp; done) | (go_simp; with_reducible rfl) | (simp [go_sem, ↓IntWalk.iteOmega, *]; done) | (simp [go_sem, ↓IntWalk.iteOmega, *]; with_reducible rfl)); (intro g4); clear g3; (try simp only [Act.put, List.setIfInBounds_toArray, List.set_cons_zero, List.set_cons_succ, List.getElem_toArray, List.getElem_cons_succ, List.getElem_cons_zero])
                  exact node_here (nd3_6_9_10_11_12_18_19 wN X3 v6 Y9 A8 c8 A9 c9 p q cd xx yy H18 ⟨HX.out, HE.out, HV.out⟩) g4
            · rintro wC X3 v6 Y9 A8 c8 A9 c9 p q cd xx yy H18 ⟨f0, f1, f2⟩ g0
              have HX := Lib.hid f0; clear f0
              have HE := Lib.hid f1; clear f1
              have HV := Lib.hid f2; clear f2
              refine wpAnyG_done (by kernel_rfl) ?_ _; clear g0
              go_wp2
              go_meet
              case rel => exact ⟨H18, p, q, cd, rfl, rfl, HX.out, HV, HE.out⟩
          case rest =>
            obtain ⟨H1, p, q, cd, rfl, rfl, hV1, HV1, hbc⟩ := hcut
            obtain ⟨wA, hwA⟩ : ∃ wA : World, wA = wc := ⟨_, rfl⟩
            rw [← hwA] at hV1 hbc ⊢
            clear hwA p0 p1 p2 p3
            have hPA := hP9.up hbc
            have BA := B9.trans (hbc.mono z9)
            have zA := BA.size
            have KSC2 := Lib.hid (fun A1 c1 wx (h : Below wA.heap.size wA wx) (hF : FactsAt wx wx.heap.size A1 LC) => KSC.out A1 c1 wx (hbc.trans (h.mono hbc.size)) hF)
            have SBC := Lib.hid (fun wx (h : Below wA.heap.size wA wx) => SB.out wx (BA.trans (h.mono zA)))
            have p0 := hPA.lt
            have p1 := hPA.c0
            have p2 := hPA.c1
            have p3 := hPA.c2
            clear hbc KSC
            go_upto_region 13 with fail
            go_cut [15, 16, 17, 18] (fun v11 v12 v13 v14 wx => ∃ H p q cd, v11 = .pointer (some ⟨H, 0, none⟩) ∧ v14 = errV cd ∧ Own2 wx H p q ∧ Hid (ValR c.length (R.length + 1) (fr37 (R ++ [onL c.length])) (rl (b ++ [(((xn + 1 : Nat) : Int), 1)])) (rl c) p q cd) ∧ Below wA.heap.size wA wx)
            case first =>
              have KSC := KSC2
              go_wp2_with fail
              refine wp_region_G 13 (fun w' => ∀ b o, w'.cell? ⟨b, o, none⟩ = if b < wA.heap.size then wA.cell? ⟨b, o, none⟩ else hidC w' b o) (by kernel_rfl) (cif (B := wA.heap.size) (W := wA) (Below.refl _ _).drew) ?_
              apply merge14 (F := fun (wC : World) (X3 : Nat) (v6 : Value) (Y9 : Nat) (A8 : Option Addr) (c8 : Nat) (A9 : Option Addr) (c9 : Nat) (p : Int) (q : Int) (cd : Int) (xx : Value) (yy : Value) (H18 : Nat) => (Own2 wC H18 p q) ∧ (Below wA.heap.size wA wC) ∧ (ValR c.length (R.length + 1) (fr37 (R ++ [onL c.length])) (rl (b ++ [(((xn + 1 : Nat) : Int), 1)])) (rl c) p q cd))
              · intro nd3_6_10_11_12_13_19_20
                apply merge14 (F := fun (wC : World) (X3 : Nat) (v6 : Value) (Y9 : Nat) (A8 : Option Addr) (c8 : Nat) (A9 : Option Addr) (c9 : Nat) (p : Int) (q : Int) (cd : Int) (xx : Value) (yy : Value) (H18 : Nat) => (BSt wA (x + 1) wC (.slice A9 LC.length c9) LC (some Y9) (some H18) none) ∧ (ValR c.length (R.length + 1) (fr37 (R ++ [onL c.length])) (rl (b ++ [(((xn + 1 : Nat) : Int), 1)])) (rl c) p q cd))
                · intro nd3_6_10_11_12_13_19
                  apply merge13 (F := fun (wC : World) (X3 : Nat) (v6 : Value) (Y9 : Nat) (A8 : Option Addr) (c8 : Nat) (A9 : Option Addr) (c9 : Nat) (p : Int) (q : Int) (cd : Int) (xx : Value) (yy : Value) => (BSt wA (x + 1) wC (.slice A9 LC.length c9) LC (some Y9) none none) ∧ (ValR c.length (R.length + 1) (fr37 (R ++ [onL c.length])) (rl (b ++ [(((xn + 1 : Nat) : Int), 1)])) (rl c) p q cd))
                  · intro nd3_6_10_11_12_13
                    apply merge9 (F := fun (wC : World) (X3 : Nat) (v6 : Value) (Y9 : Nat) (A8 : Option Addr) (c8 : Nat) (A9 : Option Addr) (c9 : Nat) (H18 : Nat) => (BSt wA (x + 1) wC (.slice A9 LC.length c9) LC (some Y9) (some H18) none))
                    · intro nd3_6_10_11_12_19
                      apply merge7 (F := fun (wC : World) (X3 : Nat) (v6 : Value) (Y9 : Nat) (A8 : Option Addr) (c8 : Nat) (H18 : Nat) => (BSt wA (x + 1) wC (v6) b (some Y9) (some H18) (some A8)) ∧ (A8 = none → c8 = 0))
                      · intro nd3_6_10_11_19
                        apply merge8 (F := fun (wC : World) (X3 : Nat) (v6 : Value) (Y9 : Nat) (A8 : Option Addr) (c8 : Nat) (A9 : Option Addr) (c9 : Nat) => (BSt wA (x + 1) wC (.slice A9 LC.length c9) LC (some Y9) none none))
                        · intro nd3_6_10_11_12
                          apply merge5 (F := fun (wC : World) (X3 : Nat) (v6 : Value) (Y9 : Nat) (H18 : Nat) => (BSt wA (x + 1) wC (v6) b (some Y9) (some H18) none))
                          · intro nd3_6_10_19
                            apply merge6 (F := fun (wC : World) (X3 : Nat) (v6 : Value) (Y9 : Nat) (A8 : Option Addr) (c8 : Nat) => (BSt wA (x + 1) wC (v6) b (some Y9) none (some A8)) ∧ (A8 = none → c8 = 0))
                            · intro nd3_6_10_11
                              apply merge4 (F := fun (wC : World) (X3 : Nat) (Y9 : Nat) (H18 : Nat) => (BSt wA (x + 1) wC (.slice (some ⟨X3, 0, none⟩) 0 0) [] (some Y9) (some H18) none))
                              · intro nd3_10_19
                                apply merge4 (F := fun (wC : World) (X3 : Nat) (v6 : Value) (H18 : Nat) => (BSt wA (x + 1) wC (v6) b none (some H18) none))
                                · intro nd3_6_19
                                  apply merge4 (F := fun (wC : World) (X3 : Nat) (v6 : Value) (Y9 : Nat) => (BSt wA (x + 1) wC (v6) b (some Y9) none none))
                                  · intro nd3_6_10
                                    apply merge3 (F := fun (wC : World) (Y9 : Nat) (H18 : Nat) => (BSt wA (x + 1) wC (.slice none 0 0) [] (some Y9) (some H18) none))
                                    · intro nd10_19
                                      apply merge3 (F := fun (wC : World) (X3 : Nat) (H18 : Nat) => (BSt wA (x + 1) wC (.slice (some ⟨X3, 0, none⟩) 0 0) [] none (some H18) none))
                                      · intro nd3_19
                                        apply merge3 (F := fun (wC : World) (X3 : Nat) (Y9 : Nat) => (BSt wA (x + 1) wC (.slice (some ⟨X3, 0, none⟩) 0 0) [] (some Y9) none none))
                                        · intro nd3_10
                                          apply merge3 (F := fun (wC : World) (X3 : Nat) (v6 : Value) => (BSt wA (x + 1) wC (v6) b none none none))
                                          · intro nd3_6
                                            apply merge2 (F := fun (wC : World) (H18 : Nat) => (BSt wA (x + 1) wC (.slice none 0 0) [] none (some H18) none))
                                            · intro nd19
                                              apply merge2 (F := fun (wC : World) (Y9 : Nat) => (BSt wA (x + 1) wC (.slice none 0 0) [] (some Y9) none none))
                                              · intro nd10
                                                apply merge2 (F := fun (wC : World) (X3 : Nat) => (BSt wA (x + 1) wC (.slice (some ⟨X3, 0, none⟩) 0 0) [] none none none))
                                                · intro nd3
                                                  intro g0
                                                  have ST := Lib.hid (BSt.start wA (x + 1))
                                                  generalize World.drew wA = wC at ST g0 ⊢
                                                  refine wpAnyG_any (i := 0) (v := ?_) rfl g0 (by kernel_rfl) (by kernel_rfl) (by kernel_rfl) rfl (fun _ _ _ h => h) (Or.inl ⟨by rfl, ?_⟩) ?_; rotate_left; (intro wS hSw; (try dsimp only at hSw); first | (go_simp; done) | (go_simp; with_reducible rfl) | (simp [go_sem, ↓IntWalk.iteOmega, *]; done) | (simp [go_sem, ↓IntWalk.iteOmega, *]; with_reducible rfl)); (intro g1); clear g0; (try simp only [Act.put, List.setIfInBounds_toArray, List.set_cons_zero, List.set_cons_succ, List.getElem_toArray, List.getElem_cons_succ, List.getElem_cons_zero])
                                                  refine wpAnyG_take (i := 1) (v := ?_) rfl g1 (by kernel_rfl) (by kernel_rfl) (by kernel_rfl) rfl (by kernel_rfl) (fun _ _ _ h => h) (Or.inl ⟨by rfl, ?_⟩) ?_; rotate_left; (intro wS hSw; (try dsimp only at hSw); first | (go_simp; done) | (go_simp; with_reducible rfl) | (simp [go_sem, ↓IntWalk.iteOmega, *]; done) | (simp [go_sem, ↓IntWalk.iteOmega, *]; with_reducible rfl)); (intro g2); clear g1; (try simp only [Act.put, List.setIfInBounds_toArray, List.set_cons_zero, List.set_cons_succ, List.getElem_toArray, List.getElem_cons_succ, List.getElem_cons_zero])
                                                  refine wpAnyG_any (i := 2) (v := ?_) rfl g2 (by kernel_rfl) (by kernel_rfl) (by kernel_rfl) rfl (fun _ _ _ h => h) (Or.inl ⟨by rfl, ?_⟩) ?_; rotate_left; (intro wS hSw; (try dsimp only at hSw); first | (go_simp; done) | (go_simp; with_reducible rfl) | (simp [go_sem, ↓IntWalk.iteOmega, *]; done) | (simp [go_sem, ↓IntWalk.iteOmega, *]; with_reducible rfl)); (intro g3); clear g2; (try simp only [Act.put, List.setIfInBounds_toArray, List.set_cons_zero, List.set_cons_succ, List.getElem_toArray, List.getElem_cons_succ, List.getElem_cons_zero])
                                                  refine wpAnyG_any (i := 4) (v := ?_) rfl g3 (by kernel_rfl) (by kernel_rfl) (by kernel_rfl) rfl (fun _ _ _ h => h) (Or.inl ⟨by rfl, ?_⟩) ?_; rotate_left; (intro wS hSw; (try dsimp only at hSw); first | (go_simp; done) | (go_simp; with_reducible rfl) | (simp [go_sem, ↓IntWalk.iteOmega, *]; done) | (simp [go_sem, ↓IntWalk.iteOmega, *]; with_reducible rfl)); (intro g4); clear g3; (try simp only [Act.put, List.setIfInBounds_toArray, List.set_cons_zero, List.set_cons_succ, List.getElem_toArray, List.getElem_cons_succ, List.getElem_cons_zero])
                                                  refine wpAnyG_take (i := 5) (v := ?_) rfl g4 (by kernel_rfl) (by kernel_rfl) (by kernel_rfl) rfl (by kernel_rfl) (fun _ _ _ h => h) (Or.inl ⟨by rfl, ?_⟩) ?_; rotate_left; (intro wS hSw; (try dsimp only at hSw); first | (go_simp; done) | (go_simp; with_reducible rfl) | (simp [go_sem, ↓IntWalk.iteOmega, *]; done) | (simp [go_sem, ↓IntWalk.iteOmega, *]; with_reducible rfl)); (intro g5); clear g4; (try simp only [Act.put, List.setIfInBounds_toArray, List.set_cons_zero, List.set_cons_succ, List.getElem_toArray, List.getElem_cons_succ, List.getElem_cons_zero])
                                                  refine wpAnyG_any (i := 7) (v := ?_) rfl g5 (by kernel_rfl) (by kernel_rfl) (by kernel_rfl) rfl (fun _ _ _ h => h) (Or.inl ⟨by rfl, ?_⟩) ?_; rotate_left; (intro wS hSw; (try dsimp only at hSw); first | (go_simp; done) | (go_simp; with_reducible rfl) | (simp [go_sem, ↓IntWalk.iteOmega, *]; done) | (simp [go_sem, ↓IntWalk.iteOmega, *]; with_reducible rfl)); (intro g6); clear g5; (try simp only [Act.put, List.setIfInBounds_toArray, List.set_cons_zero, List.set_cons_succ, List.getElem_toArray, List.getElem_cons_succ, List.getElem_cons_zero])
                                                  refine wpAnyG_any (i := 8) (v := ?_) rfl g6 (by kernel_rfl) (by kernel_rfl) (by kernel_rfl) rfl (fun _ _ _ h => h) (Or.inl ⟨by rfl, ?_⟩) ?_; rotate_left; (intro wS hSw; (try dsimp only at hSw); first | (go_simp; done) | (go_simp; with_reducible rfl) | (simp [go_sem, ↓IntWalk.iteOmega, *]; done) | (simp [go_sem, ↓IntWalk.iteOmega, *]; with_reducible rfl)); (intro g7); clear g6; (try simp only [Act.put, List.setIfInBounds_toArray, List.set_cons_zero, List.set_cons_succ, List.getElem_toArray, List.getElem_cons_succ, List.getElem_cons_zero])
                                                  refine wpAnyG_any (i := 9) (v := ?_) rfl g7 (by kernel_rfl) (by kernel_rfl) (by kernel_rfl) rfl (fun _ _ _ h => h) (Or.inl ⟨by rfl, ?_⟩) ?_; rotate_left; (intro wS hSw; (try dsimp only at hSw); first | (go_simp; done) | (go_simp; with_reducible rfl) | (simp [go_sem, ↓IntWalk.iteOmega, *]; done) | (simp [go_sem, ↓IntWalk.iteOmega, *]; with_reducible rfl)); (intro g8); clear g7; (try simp only [Act.put, List.setIfInBounds_toArray, List.set_cons_zero, List.set_cons_succ, List.getElem_toArray, List.getElem_cons_succ, List.getElem_cons_zero])
                                                  have g00 := g8; clear g8; have g0 := g00; clear g00
                                                  refine wpAnyG_ready (rs := [3, 10, 19]) (by kernel_rfl) (by simp) (AllG.cons rfl g0 (fun K hK => ?_) (AllG.cons rfl g0 (fun K hK => ?_) (AllG.cons rfl g0 (fun K hK => ?_) AllG.nil)))
                                                  · go_simp; refine ST.out.k3 (fun wN ST' => ?_); generalize wC.heap.size = X3 at ST' ⊢; clear ST; have ST := Lib.hid ST'; clear ST'
                                                    refine hK.out _ _ (Or.inr (cif ST.out.bel)) (fun g1 => ?_); clear hK g0; (try simp only [Act.put, List.setIfInBounds_toArray, List.set_cons_zero, List.set_cons_succ, List.getElem_toArray, List.getElem_cons_succ, List.getElem_cons_zero])
                                                    exact node_here (nd3 wN X3 ST.out) g1
                                                  · go_simp; refine ST.out.k9 (fun wN ST' => ?_); generalize wC.heap.size = Y9 at ST' ⊢; clear ST; have ST := Lib.hid ST'; clear ST'
                                                    refine hK.out _ _ (Or.inr (cif ST.out.bel)) (fun g1 => ?_); clear hK g0; (try simp only [Act.put, List.setIfInBounds_toArray, List.set_cons_zero, List.set_cons_succ, List.getElem_toArray, List.getElem_cons_succ, List.getElem_cons_zero])
                                                    exact node_here (nd10 wN Y9 ST.out) g1
                                                  · go_simp; refine ST.out.k18 (fun wN ST' => ?_); generalize wC.heap.size = H18 at ST' ⊢; clear ST; have ST := Lib.hid ST'; clear ST'
                                                    refine hK.out _ _ (Or.inr (cif ST.out.bel)) (fun g1 => ?_); clear hK g0; (try simp only [Act.put, List.setIfInBounds_toArray, List.set_cons_zero, List.set_cons_succ, List.getElem_toArray, List.getElem_cons_succ, List.getElem_cons_zero])
                                                    exact node_here (nd19 wN H18 ST.out) g1
                                                · rintro wC X3 f0 g0
                                                  have ST := Lib.hid f0; clear f0
                                                  refine wpAnyG_ready (rs := [6, 10, 19]) (by kernel_rfl) (by simp) (AllG.cons rfl g0 (fun K hK => ?_) (AllG.cons rfl g0 (fun K hK => ?_) (AllG.cons rfl g0 (fun K hK => ?_) AllG.nil)))
                                                  · refine step_append_src (by rfl) _ _ 22 (by rfl) wA.heap.size 29 inf (.agg #[.int .i64 0, .int .i64 0]) 2 16 undC hi iz0 iz1 iz2 rfl (by decide) _ _ _ (by rfl) ST.out.row Ab b.length cb (fc b) (by rfl) (SBC.out _ ST.out.bel) (by unfold maxLen; have := HS16.out; first | omega | (simp; omega)) (by have := HS16.out; first | omega | (simp; omega)) ST.out.base ?_; intro v6 wN ho8 hg8 hat8; have ST' := BSt.app (l2 := b) (L := b) ST.out ho8 hg8 hat8 rfl; clear ho8 hg8 hat8; clear ST; have ST := Lib.hid ST'; clear ST'
                                                    refine hK.out _ _ (Or.inr (cif ST.out.bel)) (fun g1 => ?_); clear hK g0; (try simp only [Act.put, List.setIfInBounds_toArray, List.set_cons_zero, List.set_cons_succ, List.getElem_toArray, List.getElem_cons_succ, List.getElem_cons_zero])
                                                    exact node_here (nd3_6 wN X3 v6 ST.out) g1
                                                  · go_simp; refine ST.out.k9 (fun wN ST' => ?_); generalize wC.heap.size = Y9 at ST' ⊢; clear ST; have ST := Lib.hid ST'; clear ST'
                                                    refine hK.out _ _ (Or.inr (cif ST.out.bel)) (fun g1 => ?_); clear hK g0; (try simp only [Act.put, List.setIfInBounds_toArray, List.set_cons_zero, List.set_cons_succ, List.getElem_toArray, List.getElem_cons_succ, List.getElem_cons_zero])
                                                    exact node_here (nd3_10 wN X3 Y9 ST.out) g1
                                                  · go_simp; refine ST.out.k18 (fun wN ST' => ?_); generalize wC.heap.size = H18 at ST' ⊢; clear ST; have ST := Lib.hid ST'; clear ST'
                                                    refine hK.out _ _ (Or.inr (cif ST.out.bel)) (fun g1 => ?_); clear hK g0; (try simp only [Act.put, List.setIfInBounds_toArray, List.set_cons_zero, List.set_cons_succ, List.getElem_toArray, List.getElem_cons_succ, List.getElem_cons_zero])
                                                    exact node_here (nd3_19 wN X3 H18 ST.out) g1
                                              · rintro wC Y9 f0 g0
                                                have ST := Lib.hid f0; clear f0
                                                refine wpAnyG_ready (rs := [3, 19]) (by kernel_rfl) (by simp) (AllG.cons rfl g0 (fun K hK => ?_) (AllG.cons rfl g0 (fun K hK => ?_) AllG.nil))
                                                · go_simp; refine ST.out.k3 (fun wN ST' => ?_); generalize wC.heap.size = X3 at ST' ⊢; clear ST; have ST := Lib.hid ST'; clear ST'
                                                  refine hK.out _ _ (Or.inr (cif ST.out.bel)) (fun g1 => ?_); clear hK g0; (try simp only [Act.put, List.setIfInBounds_toArray, List.set_cons_zero, List.set_cons_succ, List.getElem_toArray, List.getElem_cons_succ, List.getElem_cons_zero])
                                                  exact node_move (by kernel_rfl) (nd3_10 wN X3 Y9 ST.out) g1
                                                · go_simp; refine ST.out.k18 (fun wN ST' => ?_); generalize wC.heap.size = H18 at ST' ⊢; clear ST; have ST := Lib.hid ST'; clear ST'
                                                  refine hK.out _ _ (Or.inr (cif ST.out.bel)) (fun g1 => ?_); clear hK g0; (try simp only [Act.put, List.setIfInBounds_toArray, List.set_cons_zero, List.set_cons_succ, List.getElem_toArray, List.getElem_cons_succ, List.getElem_cons_zero])
                                                  exact node_here (nd10_19 wN Y9 H18 ST.out) g1
                                            · rintro wC H18 f0 g0
                                              have ST := Lib.hid f0; clear f0
                                              refine wpAnyG_ready (rs := [3, 10]) (by kernel_rfl) (by simp) (AllG.cons rfl g0 (fun K hK => ?_) (AllG.cons rfl g0 (fun K hK => ?_) AllG.nil))
                                              · go_simp; refine ST.out.k3 (fun wN ST' => ?_); generalize wC.heap.size = X3 at ST' ⊢; clear ST; have ST := Lib.hid ST'; clear ST'
                                                refine hK.out _ _ (Or.inr (cif ST.out.bel)) (fun g1 => ?_); clear hK g0; (try simp only [Act.put, List.setIfInBounds_toArray, List.set_cons_zero, List.set_cons_succ, List.getElem_toArray, List.getElem_cons_succ, List.getElem_cons_zero])
                                                exact node_move (by kernel_rfl) (nd3_19 wN X3 H18 ST.out) g1
                                              · go_simp; refine ST.out.k9 (fun wN ST' => ?_); generalize wC.heap.size = Y9 at ST' ⊢; clear ST; have ST := Lib.hid ST'; clear ST'
                                                refine hK.out _ _ (Or.inr (cif ST.out.bel)) (fun g1 => ?_); clear hK g0; (try simp only [Act.put, List.setIfInBounds_toArray, List.set_cons_zero, List.set_cons_succ, List.getElem_toArray, List.getElem_cons_succ, List.getElem_cons_zero])
                                                exact node_move (by kernel_rfl) (nd10_19 wN Y9 H18 ST.out) g1
                                          · rintro wC X3 v6 f0 g0
                                            have ST := Lib.hid f0; clear f0
                                            refine wpAnyG_ready (rs := [10, 19]) (by kernel_rfl) (by simp) (AllG.cons rfl g0 (fun K hK => ?_) (AllG.cons rfl g0 (fun K hK => ?_) AllG.nil))
                                            · go_simp; refine ST.out.k9 (fun wN ST' => ?_); generalize wC.heap.size = Y9 at ST' ⊢; clear ST; have ST := Lib.hid ST'; clear ST'
                                              refine hK.out _ _ (Or.inr (cif ST.out.bel)) (fun g1 => ?_); clear hK g0; (try simp only [Act.put, List.setIfInBounds_toArray, List.set_cons_zero, List.set_cons_succ, List.getElem_toArray, List.getElem_cons_succ, List.getElem_cons_zero])
                                              exact node_here (nd3_6_10 wN X3 v6 Y9 ST.out) g1
                                            · go_simp; refine ST.out.k18 (fun wN ST' => ?_); generalize wC.heap.size = H18 at ST' ⊢; clear ST; have ST := Lib.hid ST'; clear ST'
                                              refine hK.out _ _ (Or.inr (cif ST.out.bel)) (fun g1 => ?_); clear hK g0; (try simp only [Act.put, List.setIfInBounds_toArray, List.set_cons_zero, List.set_cons_succ, List.getElem_toArray, List.getElem_cons_succ, List.getElem_cons_zero])
                                              exact node_here (nd3_6_19 wN X3 v6 H18 ST.out) g1
                                        · rintro wC X3 Y9 f0 g0
                                          have ST := Lib.hid f0; clear f0
                                          refine wpAnyG_ready (rs := [6, 19]) (by kernel_rfl) (by simp) (AllG.cons rfl g0 (fun K hK => ?_) (AllG.cons rfl g0 (fun K hK => ?_) AllG.nil))
                                          · refine step_append_src (by rfl) _ _ 22 (by rfl) wA.heap.size 29 inf (.agg #[.int .i64 0, .int .i64 0]) 2 16 undC hi iz0 iz1 iz2 rfl (by decide) _ _ _ (by rfl) ST.out.row Ab b.length cb (fc b) (by rfl) (SBC.out _ ST.out.bel) (by unfold maxLen; have := HS16.out; first | omega | (simp; omega)) (by have := HS16.out; first | omega | (simp; omega)) ST.out.base ?_; intro v6 wN ho8 hg8 hat8; have ST' := BSt.app (l2 := b) (L := b) ST.out ho8 hg8 hat8 rfl; clear ho8 hg8 hat8; clear ST; have ST := Lib.hid ST'; clear ST'
                                            refine hK.out _ _ (Or.inr (cif ST.out.bel)) (fun g1 => ?_); clear hK g0; (try simp only [Act.put, List.setIfInBounds_toArray, List.set_cons_zero, List.set_cons_succ, List.getElem_toArray, List.getElem_cons_succ, List.getElem_cons_zero])
                                            exact node_move (by kernel_rfl) (nd3_6_10 wN X3 v6 Y9 ST.out) g1
                                          · go_simp; refine ST.out.k18 (fun wN ST' => ?_); generalize wC.heap.size = H18 at ST' ⊢; clear ST; have ST := Lib.hid ST'; clear ST'
                                            refine hK.out _ _ (Or.inr (cif ST.out.bel)) (fun g1 => ?_); clear hK g0; (try simp only [Act.put, List.setIfInBounds_toArray, List.set_cons_zero, List.set_cons_succ, List.getElem_toArray, List.getElem_cons_succ, List.getElem_cons_zero])
                                            exact node_here (nd3_10_19 wN X3 Y9 H18 ST.out) g1
                                      · rintro wC X3 H18 f0 g0
                                        have ST := Lib.hid f0; clear f0
                                        refine wpAnyG_ready (rs := [6, 10]) (by kernel_rfl) (by simp) (AllG.cons rfl g0 (fun K hK => ?_) (AllG.cons rfl g0 (fun K hK => ?_) AllG.nil))
                                        · refine step_append_src (by rfl) _ _ 22 (by rfl) wA.heap.size 29 inf (.agg #[.int .i64 0, .int .i64 0]) 2 16 undC hi iz0 iz1 iz2 rfl (by decide) _ _ _ (by rfl) ST.out.row Ab b.length cb (fc b) (by rfl) (SBC.out _ ST.out.bel) (by unfold maxLen; have := HS16.out; first | omega | (simp; omega)) (by have := HS16.out; first | omega | (simp; omega)) ST.out.base ?_; intro v6 wN ho8 hg8 hat8; have ST' := BSt.app (l2 := b) (L := b) ST.out ho8 hg8 hat8 rfl; clear ho8 hg8 hat8; clear ST; have ST := Lib.hid ST'; clear ST'
                                          refine hK.out _ _ (Or.inr (cif ST.out.bel)) (fun g1 => ?_); clear hK g0; (try simp only [Act.put, List.setIfInBounds_toArray, List.set_cons_zero, List.set_cons_succ, List.getElem_toArray, List.getElem_cons_succ, List.getElem_cons_zero])
                                          exact node_move (by kernel_rfl) (nd3_6_19 wN X3 v6 H18 ST.out) g1
                                        · go_simp; refine ST.out.k9 (fun wN ST' => ?_); generalize wC.heap.size = Y9 at ST' ⊢; clear ST; have ST := Lib.hid ST'; clear ST'
                                          refine hK.out _ _ (Or.inr (cif ST.out.bel)) (fun g1 => ?_); clear hK g0; (try simp only [Act.put, List.setIfInBounds_toArray, List.set_cons_zero, List.set_cons_succ, List.getElem_toArray, List.getElem_cons_succ, List.getElem_cons_zero])
                                          exact node_move (by kernel_rfl) (nd3_10_19 wN X3 Y9 H18 ST.out) g1
                                    · rintro wC Y9 H18 f0 g0
                                      have ST := Lib.hid f0; clear f0
                                      refine wpAnyG_ready (rs := [3]) (by kernel_rfl) (by simp) (AllG.cons rfl g0 (fun K hK => ?_) AllG.nil)
                                      · go_simp; refine ST.out.k3 (fun wN ST' => ?_); generalize wC.heap.size = X3 at ST' ⊢; clear ST; have ST := Lib.hid ST'; clear ST'
                                        refine hK.out _ _ (Or.inr (cif ST.out.bel)) (fun g1 => ?_); clear hK g0; (try simp only [Act.put, List.setIfInBounds_toArray, List.set_cons_zero, List.set_cons_succ, List.getElem_toArray, List.getElem_cons_succ, List.getElem_cons_zero])
                                        exact node_move (by kernel_rfl) (nd3_10_19 wN X3 Y9 H18 ST.out) g1
                                  · rintro wC X3 v6 Y9 f0 g0
                                    have ST := Lib.hid f0; clear f0
                                    refine wpAnyG_ready (rs := [11, 19]) (by kernel_rfl) (by simp) (AllG.cons rfl g0 (fun K hK => ?_) (AllG.cons rfl g0 (fun K hK => ?_) AllG.nil))
                                    · go_simp; go_at_call 17; refine (KF.out _ _ _ _ (ST.out.int rfl)).mono ?_; rintro e wN ⟨⟨A8, c8, rfl, hz8, hF8⟩, hb8⟩; have ST' := ST.out.call hb8 hF8; have HZ8 := Lib.hid hz8; clear hb8 hF8 hz8; clear ST; have ST := Lib.hid ST'; clear ST'
                                      refine hK.out _ _ (Or.inr (cif ST.out.bel)) (fun g1 => ?_); clear hK g0; (try simp only [Act.put, List.setIfInBounds_toArray, List.set_cons_zero, List.set_cons_succ, List.getElem_toArray, List.getElem_cons_succ, List.getElem_cons_zero])
                                      exact node_here (nd3_6_10_11 wN X3 v6 Y9 A8 c8 ⟨ST.out, HZ8.out⟩) g1
                                    · go_simp; refine ST.out.k18 (fun wN ST' => ?_); generalize wC.heap.size = H18 at ST' ⊢; clear ST; have ST := Lib.hid ST'; clear ST'
                                      refine hK.out _ _ (Or.inr (cif ST.out.bel)) (fun g1 => ?_); clear hK g0; (try simp only [Act.put, List.setIfInBounds_toArray, List.set_cons_zero, List.set_cons_succ, List.getElem_toArray, List.getElem_cons_succ, List.getElem_cons_zero])
                                      exact node_here (nd3_6_10_19 wN X3 v6 Y9 H18 ST.out) g1
                                · rintro wC X3 v6 H18 f0 g0
                                  have ST := Lib.hid f0; clear f0
                                  refine wpAnyG_ready (rs := [10]) (by kernel_rfl) (by simp) (AllG.cons rfl g0 (fun K hK => ?_) AllG.nil)
                                  · go_simp; refine ST.out.k9 (fun wN ST' => ?_); generalize wC.heap.size = Y9 at ST' ⊢; clear ST; have ST := Lib.hid ST'; clear ST'
                                    refine hK.out _ _ (Or.inr (cif ST.out.bel)) (fun g1 => ?_); clear hK g0; (try simp only [Act.put, List.setIfInBounds_toArray, List.set_cons_zero, List.set_cons_succ, List.getElem_toArray, List.getElem_cons_succ, List.getElem_cons_zero])
                                    exact node_move (by kernel_rfl) (nd3_6_10_19 wN X3 v6 Y9 H18 ST.out) g1
                              · rintro wC X3 Y9 H18 f0 g0
                                have ST := Lib.hid f0; clear f0
                                refine wpAnyG_ready (rs := [6]) (by kernel_rfl) (by simp) (AllG.cons rfl g0 (fun K hK => ?_) AllG.nil)
                                · refine step_append_src (by rfl) _ _ 22 (by rfl) wA.heap.size 29 inf (.agg #[.int .i64 0, .int .i64 0]) 2 16 undC hi iz0 iz1 iz2 rfl (by decide) _ _ _ (by rfl) ST.out.row Ab b.length cb (fc b) (by rfl) (SBC.out _ ST.out.bel) (by unfold maxLen; have := HS16.out; first | omega | (simp; omega)) (by have := HS16.out; first | omega | (simp; omega)) ST.out.base ?_; intro v6 wN ho8 hg8 hat8; have ST' := BSt.app (l2 := b) (L := b) ST.out ho8 hg8 hat8 rfl; clear ho8 hg8 hat8; clear ST; have ST := Lib.hid ST'; clear ST'
                                  refine hK.out _ _ (Or.inr (cif ST.out.bel)) (fun g1 => ?_); clear hK g0; (try simp only [Act.put, List.setIfInBounds_toArray, List.set_cons_zero, List.set_cons_succ, List.getElem_toArray, List.getElem_cons_succ, List.getElem_cons_zero])
                                  exact node_move (by kernel_rfl) (nd3_6_10_19 wN X3 v6 Y9 H18 ST.out) g1
                            · rintro wC X3 v6 Y9 A8 c8 ⟨f0, f1⟩ g0
                              have ST := Lib.hid f0; clear f0
                              have HZ8 := Lib.hid f1; clear f1
                              refine wpAnyG_ready (rs := [12, 19]) (by kernel_rfl) (by simp) (AllG.cons rfl g0 (fun K hK => ?_) (AllG.cons rfl g0 (fun K hK => ?_) AllG.nil))
                              · refine step_append_src (by rfl) _ _ 22 (by rfl) wA.heap.size 29 inf (.agg #[.int .i64 0, .int .i64 0]) 2 16 undC hi iz0 iz1 iz2 rfl (by decide) _ _ _ (by rfl) ST.out.row A8 1 c8 (fc [((x + 1), 1)]) (by rfl) (facts_src (ST.out.fac _ rfl) HZ8.out) (by unfold maxLen; have := HS16.out; first | omega | (simp; omega)) (by have := HS16.out; first | omega | (simp; omega)) ST.out.base ?_; intro v9 wN ho9 hg9 hat9; have ST' := BSt.app (l2 := [((x + 1), 1)]) (L := LC) ST.out ho9 hg9 hat9 HLC.out.symm; obtain ⟨A9, c9, rfl⟩ := own_shape ST'.row; clear ho9 hg9 hat9; clear ST; have ST := Lib.hid ST'; clear ST'
                                refine hK.out _ _ (Or.inr (cif ST.out.bel)) (fun g1 => ?_); clear hK g0; (try simp only [Act.put, List.setIfInBounds_toArray, List.set_cons_zero, List.set_cons_succ, List.getElem_toArray, List.getElem_cons_succ, List.getElem_cons_zero])
                                exact node_here (nd3_6_10_11_12 wN X3 v6 Y9 A8 c8 A9 c9 ST.out) g1
                              · go_simp; refine ST.out.k18 (fun wN ST' => ?_); generalize wC.heap.size = H18 at ST' ⊢; clear ST; have ST := Lib.hid ST'; clear ST'
                                refine hK.out _ _ (Or.inr (cif ST.out.bel)) (fun g1 => ?_); clear hK g0; (try simp only [Act.put, List.setIfInBounds_toArray, List.set_cons_zero, List.set_cons_succ, List.getElem_toArray, List.getElem_cons_succ, List.getElem_cons_zero])
                                exact node_here (nd3_6_10_11_19 wN X3 v6 Y9 A8 c8 H18 ⟨ST.out, HZ8.out⟩) g1
                          · rintro wC X3 v6 Y9 H18 f0 g0
                            have ST := Lib.hid f0; clear f0
                            refine wpAnyG_ready (rs := [11]) (by kernel_rfl) (by simp) (AllG.cons rfl g0 (fun K hK => ?_) AllG.nil)
                            · go_simp; go_at_call 17; refine (KF.out _ _ _ _ (ST.out.int rfl)).mono ?_; rintro e wN ⟨⟨A8, c8, rfl, hz8, hF8⟩, hb8⟩; have ST' := ST.out.call hb8 hF8; have HZ8 := Lib.hid hz8; clear hb8 hF8 hz8; clear ST; have ST := Lib.hid ST'; clear ST'
                              refine hK.out _ _ (Or.inr (cif ST.out.bel)) (fun g1 => ?_); clear hK g0; (try simp only [Act.put, List.setIfInBounds_toArray, List.set_cons_zero, List.set_cons_succ, List.getElem_toArray, List.getElem_cons_succ, List.getElem_cons_zero])
                              exact node_move (by kernel_rfl) (nd3_6_10_11_19 wN X3 v6 Y9 A8 c8 H18 ⟨ST.out, HZ8.out⟩) g1
                        · rintro wC X3 v6 Y9 A8 c8 A9 c9 f0 g0
                          have ST := Lib.hid f0; clear f0
                          refine wpAnyG_ready (rs := [13, 19]) (by kernel_rfl) (by simp) (AllG.cons rfl g0 (fun K hK => ?_) (AllG.cons rfl g0 (fun K hK => ?_) AllG.nil))
                          · go_simp; go_at_call 15; refine (KSC.out _ _ _ ST.out.bel (ST.out.facts (by have := HLLC.out; omega))).mono ?_; rintro e wN ⟨⟨p, q, cd, xx, yy, rfl, hv⟩, hb10⟩; have ST' := ST.out.up hb10; have HV := Lib.hid hv; clear hb10 hv; clear ST; have ST := Lib.hid ST'; clear ST'
                            refine hK.out _ _ (Or.inl rfl) (fun g1 => ?_); clear hK g0; (try simp only [Act.put, List.setIfInBounds_toArray, List.set_cons_zero, List.set_cons_succ, List.getElem_toArray, List.getElem_cons_succ, List.getElem_cons_zero])
                            refine wpAnyG_any (i := 14) (v := ?_) rfl g1 (by kernel_rfl) (by kernel_rfl) (by kernel_rfl) rfl (fun _ _ _ h => h) (Or.inl ⟨by rfl, ?_⟩) ?_; rotate_left; (intro wS hSw; (try dsimp only at hSw); first | (go_simp; done) | (go_simp; with_reducible rfl) | (simp [go_sem, ↓IntWalk.iteOmega, *]; done) | (simp [go_sem, ↓IntWalk.iteOmega, *]; with_reducible rfl)); (intro g2); clear g1; (try simp only [Act.put, List.setIfInBounds_toArray, List.set_cons_zero, List.set_cons_succ, List.getElem_toArray, List.getElem_cons_succ, List.getElem_cons_zero])
                            refine wpAnyG_any (i := 15) (v := ?_) rfl g2 (by kernel_rfl) (by kernel_rfl) (by kernel_rfl) rfl (fun _ _ _ h => h) (Or.inl ⟨by rfl, ?_⟩) ?_; rotate_left; (intro wS hSw; (try dsimp only at hSw); first | (go_simp; done) | (go_simp; with_reducible rfl) | (simp [go_sem, ↓IntWalk.iteOmega, *]; done) | (simp [go_sem, ↓IntWalk.iteOmega, *]; with_reducible rfl)); (intro g3); clear g2; (try simp only [Act.put, List.setIfInBounds_toArray, List.set_cons_zero, List.set_cons_succ, List.getElem_toArray, List.getElem_cons_succ, List.getElem_cons_zero])
                            refine wpAnyG_any (i := 16) (v := ?_) rfl g3 (by kernel_rfl) (by kernel_rfl) (by kernel_rfl) rfl (fun _ _ _ h => h) (Or.inl ⟨by rfl, ?_⟩) ?_; rotate_left; (intro wS hSw; (try dsimp only at hSw); first | (go_simp; done) | (go_simp; with_reducible rfl) | (simp [go_sem, ↓IntWalk.iteOmega, *]; done) | (simp [go_sem, ↓IntWalk.iteOmega, *]; with_reducible rfl)); (intro g4); clear g3; (try simp only [Act.put, List.setIfInBounds_toArray, List.set_cons_zero, List.set_cons_succ, List.getElem_toArray, List.getElem_cons_succ, List.getElem_cons_zero])
                            refine wpAnyG_any (i := 17) (v := ?_) rfl g4 (by kernel_rfl) (by kernel_rfl) (by kernel_rfl) rfl (fun _ _ _ h => h) (Or.inl ⟨by rfl, ?_⟩) ?_; rotate_left; (intro wS hSw; (try dsimp only at hSw); first | (go_simp; done) | (go_simp; with_reducible rfl) | (simp [go_sem, ↓IntWalk.iteOmega, *]; done) | (simp [go_sem, ↓IntWalk.iteOmega, *]; with_reducible rfl)); (intro g5); clear g4; (try simp only [Act.put, List.setIfInBounds_toArray, List.set_cons_zero, List.set_cons_succ, List.getElem_toArray, List.getElem_cons_succ, List.getElem_cons_zero])
                            refine wpAnyG_any (i := 18) (v := ?_) rfl g5 (by kernel_rfl) (by kernel_rfl) (by kernel_rfl) rfl (fun _ _ _ h => h) (Or.inl ⟨by rfl, ?_⟩) ?_; rotate_left; (intro wS hSw; (try dsimp only at hSw); first | (go_simp; done) | (go_simp; with_reducible rfl) | (simp [go_sem, ↓IntWalk.iteOmega, *]; done) | (simp [go_sem, ↓IntWalk.iteOmega, *]; with_reducible rfl)); (intro g6); clear g5; (try simp only [Act.put, List.setIfInBounds_toArray, List.set_cons_zero, List.set_cons_succ, List.getElem_toArray, List.getElem_cons_succ, List.getElem_cons_zero])
                            exact node_here (nd3_6_10_11_12_13 wN X3 v6 Y9 A8 c8 A9 c9 p q cd xx yy ⟨ST.out, HV.out⟩) g6
                          · go_simp; refine ST.out.k18 (fun wN ST' => ?_); generalize wC.heap.size = H18 at ST' ⊢; clear ST; have ST := Lib.hid ST'; clear ST'
                            refine hK.out _ _ (Or.inr (cif ST.out.bel)) (fun g1 => ?_); clear hK g0; (try simp only [Act.put, List.setIfInBounds_toArray, List.set_cons_zero, List.set_cons_succ, List.getElem_toArray, List.getElem_cons_succ, List.getElem_cons_zero])
                            exact node_here (nd3_6_10_11_12_19 wN X3 v6 Y9 A8 c8 A9 c9 H18 ST.out) g1
                      · rintro wC X3 v6 Y9 A8 c8 H18 ⟨f0, f1⟩ g0
                        have ST := Lib.hid f0; clear f0
                        have HZ8 := Lib.hid f1; clear f1
                        refine wpAnyG_ready (rs := [12]) (by kernel_rfl) (by simp) (AllG.cons rfl g0 (fun K hK => ?_) AllG.nil)
                        · refine step_append_src (by rfl) _ _ 22 (by rfl) wA.heap.size 29 inf (.agg #[.int .i64 0, .int .i64 0]) 2 16 undC hi iz0 iz1 iz2 rfl (by decide) _ _ _ (by rfl) ST.out.row A8 1 c8 (fc [((x + 1), 1)]) (by rfl) (facts_src (ST.out.fac _ rfl) HZ8.out) (by unfold maxLen; have := HS16.out; first | omega | (simp; omega)) (by have := HS16.out; first | omega | (simp; omega)) ST.out.base ?_; intro v9 wN ho9 hg9 hat9; have ST' := BSt.app (l2 := [((x + 1), 1)]) (L := LC) ST.out ho9 hg9 hat9 HLC.out.symm; obtain ⟨A9, c9, rfl⟩ := own_shape ST'.row; clear ho9 hg9 hat9; clear ST; have ST := Lib.hid ST'; clear ST'
                          refine hK.out _ _ (Or.inr (cif ST.out.bel)) (fun g1 => ?_); clear hK g0; (try simp only [Act.put, List.setIfInBounds_toArray, List.set_cons_zero, List.set_cons_succ, List.getElem_toArray, List.getElem_cons_succ, List.getElem_cons_zero])
                          exact node_move (by kernel_rfl) (nd3_6_10_11_12_19 wN X3 v6 Y9 A8 c8 A9 c9 H18 ST.out) g1
                    · rintro wC X3 v6 Y9 A8 c8 A9 c9 H18 f0 g0
                      have ST := Lib.hid f0; clear f0
                      refine wpAnyG_ready (rs := [13]) (by kernel_rfl) (by simp) (AllG.cons rfl g0 (fun K hK => ?_) AllG.nil)
                      · go_simp; go_at_call 15; refine (KSC.out _ _ _ ST.out.bel (ST.out.facts (by have := HLLC.out; omega))).mono ?_; rintro e wN ⟨⟨p, q, cd, xx, yy, rfl, hv⟩, hb10⟩; have ST' := ST.out.up hb10; have HV := Lib.hid hv; clear hb10 hv; clear ST; have ST := Lib.hid ST'; clear ST'
                        refine hK.out _ _ (Or.inl rfl) (fun g1 => ?_); clear hK g0; (try simp only [Act.put, List.setIfInBounds_toArray, List.set_cons_zero, List.set_cons_succ, List.getElem_toArray, List.getElem_cons_succ, List.getElem_cons_zero])
                        refine wpAnyG_any (i := 14) (v := ?_) rfl g1 (by kernel_rfl) (by kernel_rfl) (by kernel_rfl) rfl (fun _ _ _ h => h) (Or.inl ⟨by rfl, ?_⟩) ?_; rotate_left; (intro wS hSw; (try dsimp only at hSw); first | (go_simp; done) | (go_simp; with_reducible rfl) | (simp [go_sem, ↓IntWalk.iteOmega, *]; done) | (simp [go_sem, ↓IntWalk.iteOmega, *]; with_reducible rfl)); (intro g2); clear g1; (try simp only [Act.put, List.setIfInBounds_toArray, List.set_cons_zero, List.set_cons_succ, List.getElem_toArray, List.getElem_cons_succ, List.getElem_cons_zero])
                        refine wpAnyG_any (i := 15) (v := ?_) rfl g2 (by kernel_rfl) (by kernel_rfl) (by kernel_rfl) rfl (fun _ _ _ h => h) (Or.inl ⟨by rfl, ?_⟩) ?_; rotate_left; (intro wS hSw; (try dsimp only at hSw); first | (go_simp; done) | (go_simp; with_reducible rfl) | (simp [go_sem, ↓IntWalk.iteOmega, *]; done) | (simp [go_sem, ↓IntWalk.iteOmega, *]; with_reducible rfl)); (intro g3); clear g2; (try simp only [Act.put, List.setIfInBounds_toArray, List.set_cons_zero, List.set_cons_succ, List.getElem_toArray, List.getElem_cons_succ, List.getElem_cons_zero])
                        refine wpAnyG_any (i := 16) (v := ?_) rfl g3 (by kernel_rfl) (by kernel_rfl) (by kernel_rfl) rfl (fun _ _ _ h => h) (Or.inl ⟨by rfl, ?_⟩) ?_; rotate_left; (intro wS hSw; (try dsimp only at hSw); first | (go_simp; done) | (go_simp; with_reducible rfl) | (simp [go_sem, ↓IntWalk.iteOmega, *]; done) | (simp [go_sem, ↓IntWalk.iteOmega, *]; with_reducible rfl)); (intro g4); clear g3; (try simp only [Act.put, List.setIfInBounds_toArray, List.set_cons_zero, List.set_cons_succ, List.getElem_toArray, List.getElem_cons_succ, List.getElem_cons_zero])
                        refine wpAnyG_any (i := 17) (v := ?_) rfl g4 (by kernel_rfl) (by kernel_rfl) (by kernel_rfl) rfl (fun _ _ _ h => h) (Or.inl ⟨by rfl, ?_⟩) ?_; rotate_left; (intro wS hSw; (try dsimp only at hSw); first | (go_simp; done) | (go_simp; with_reducible rfl) | (simp [go_sem, ↓IntWalk.iteOmega, *]; done) | (simp [go_sem, ↓IntWalk.iteOmega, *]; with_reducible rfl)); (intro g5); clear g4; (try simp only [Act.put, List.setIfInBounds_toArray, List.set_cons_zero, List.set_cons_succ, List.getElem_toArray, List.getElem_cons_succ, List.getElem_cons_zero])
                        refine wpAnyG_any (i := 18) (v := ?_) rfl g5 (by kernel_rfl) (by kernel_rfl) (by kernel_rfl) rfl (fun _ _ _ h => h) (Or.inl ⟨by rfl, ?_⟩) ?_; rotate_left; (intro wS hSw; (try dsimp only at hSw); first | (go_simp; done) | (go_simp; with_reducible rfl) | (simp [go_sem, ↓IntWalk.iteOmega, *]; done) | (simp [go_sem, ↓IntWalk.iteOmega, *]; with_reducible rfl)); (intro g6); clear g5; (try simp only [Act.put, List.setIfInBounds_toArray, List.set_cons_zero, List.set_cons_succ, List.getElem_toArray, List.getElem_cons_succ, List.getElem_cons_zero])
                        exact node_here (nd3_6_10_11_12_13_19 wN X3 v6 Y9 A8 c8 A9 c9 p q cd xx yy H18 ⟨ST.out, HV.out⟩) g6
                  · rintro wC X3 v6 Y9 A8 c8 A9 c9 p q cd xx yy ⟨f0, f1⟩ g0
                    have ST := Lib.hid f0; clear f0
                    have HV := Lib.hid f1; clear f1
                    refine wpAnyG_ready (rs := [19]) (by kernel_rfl) (by simp) (AllG.cons rfl g0 (fun K hK => ?_) AllG.nil)
                    · go_simp; refine ST.out.k18 (fun wN ST' => ?_); generalize wC.heap.size = H18 at ST' ⊢; clear ST; have ST := Lib.hid ST'; clear ST'
                      refine hK.out _ _ (Or.inl rfl) (fun g1 => ?_); clear hK g0; (try simp only [Act.put, List.setIfInBounds_toArray, List.set_cons_zero, List.set_cons_succ, List.getElem_toArray, List.getElem_cons_succ, List.getElem_cons_zero])
                      exact node_move (by kernel_rfl) (nd3_6_10_11_12_13_19 wN X3 v6 Y9 A8 c8 A9 c9 p q cd xx yy H18 ⟨ST.out, HV.out⟩) g1
                · rintro wC X3 v6 Y9 A8 c8 A9 c9 p q cd xx yy H18 ⟨f0, f1⟩ g0
                  have ST := Lib.hid f0; clear f0
                  have HV := Lib.hid f1; clear f1
                  refine wpAnyG_ready (rs := [20]) (by kernel_rfl) (by simp) (AllG.cons rfl g0 (fun K hK => ?_) AllG.nil)
                  · obtain ⟨hX, hXn, hXb⟩ := ST.out.box _ rfl; obtain ⟨y0, y1, y2, y3, y4⟩ := id hX; go_simp; obtain ⟨wN, hwN⟩ : ∃ wN, wN = (wC.setCell ⟨H18, 0, none⟩ (.int .i64 p)).setCell ⟨H18, 1, none⟩ (.int .i64 q) := ⟨_, rfl⟩; have HX := Lib.hid (show Own2 wN H18 p q by rw [hwN]; exact hX.put); have HE := Lib.hid (show Below wA.heap.size wA wN by rw [hwN]; exact (ST.out.bel.setCell hXb _).setCell hXb _); rw [← hwN]; clear hwN y0 y1 y2 y3 y4 hX hXn hXb ST
                    refine hK.out _ _ (Or.inl rfl) (fun g1 => ?_); clear hK g0; (try simp only [Act.put, List.setIfInBounds_toArray, List.set_cons_zero, List.set_cons_succ, List.getElem_toArray, List.getElem_cons_succ, List.getElem_cons_zero])
                    refine wpAnyG_any (i := 21) (v := ?_) rfl g1 (by kernel_rfl) (by kernel_rfl) (by kernel_rfl) rfl (fun _ _ _ h => h) (Or.inl ⟨by rfl, ?_⟩) ?_; rotate_left; (intro wS hSw; (try dsimp only at hSw); first | (go_simp; done) | (go_simp; with_reducible rfl) | (simp [go_sem, ↓IntWalk.iteOmega, *]; done) | (simp [go_sem, ↓IntWalk.iteOmega, *]; with_reducible rfl)); (intro g2); clear g1; (try simp only [Act.put, List.setIfInBounds_toArray, List.set_cons_zero, List.set_cons_succ, List.getElem_toArray, List.getElem_cons_succ, List.getElem_cons_zero])
                    refine wpAnyG_any (i := 22) (v := ?_) rfl g2 (by kernel_rfl) (by kernel_rfl) (by kernel_rfl) rfl (fun _ _ _ h => h) (Or.inl ⟨by rfl, ?_⟩) ?_; rotate_left; (intro wS hSw; (try dsimp only at hSw); first | (go_simp; done) | (go_simp; with_reducible rfl) | (simp [go_sem, ↓IntWalk.iteOmega, *]; done) | (simp [go_sem, ↓IntWalk.iteOmega, *]; with_reducible rfl)); (intro g3); clear g2; (try simp only [Act.put, List.setIfInBounds_toArray, List.set_cons_zero, List.set_cons_succ, List.getElem_toArray, List.getElem_cons_succ, List.getElem_cons_zero])
                    refine wpAnyG_any (i := 23) (v := ?_) rfl g3 (by kernel_rfl) (by kernel_rfl) (by kernel_rfl) rfl (fun _ _ _ h => h) (Or.inl ⟨by rfl, ?_⟩) ?_; rotate_left; (intro wS hSw; (try dsimp only at hSw); first | (go_simp; done) | (go_simp; with_reducible rfl) | (simp [go_sem, ↓IntWalk.iteOmega, *]; done) | (simp [go_sem, ↓IntWalk.iteOmega, *]; with_reducible rfl)); (intro g4); clear g3; (try simp only [Act.put, List.setIfInBounds_toArray, List.set_cons_zero, List.set_cons_succ, List.getElem_toArray, List.getElem_cons_succ, List.getElem_cons_zero])
                    exact node_here (nd3_6_10_11_12_13_19_20 wN X3 v6 Y9 A8 c8 A9 c9 p q cd xx yy H18 ⟨HX.out, HE.out, HV.out⟩) g4
              · rintro wC X3 v6 Y9 A8 c8 A9 c9 p q cd xx yy H18 ⟨f0, f1, f2⟩ g0
                have HX := Lib.hid f0; clear f0
                have HE := Lib.hid f1; clear f1
                have HV := Lib.hid f2; clear f2
                refine wpAnyG_done (by kernel_rfl) ?_ _; clear g0
                go_wp2
                go_meet
                case rel => exact ⟨H18, p, q, cd, rfl, rfl, HX.out, HV, HE.out⟩
            case rest =>
              obtain ⟨H2, p', q', cd', rfl, rfl, hV2, HV2, hbc2⟩ := hcut
              have hV1' := hV1.up hbc2
              have BC := BA.trans (hbc2.mono zA)
              have zC := BC.size
              clear p0 p1 p2 p3 hbc2 hV1 ex ex1
              have hcc : cd = 5 ∨ cd = 0 := by rcases HV1.out with h | ⟨h, _⟩; exact .inl h; exact .inr h
              have hcc' : cd' = 5 ∨ cd' = 0 := by rcases HV2.out with h | ⟨h, _⟩; exact .inl h; exact .inr h
              rcases hcc with rfl | rfl <;> rcases hcc' with rfl | rfl
              · simp only [errV_5]
                go_wp2_with fail
                refine (KI5.out _).mono ?_
                rintro e _ ⟨rfl, rfl⟩
                go_wp2_with fail
                refine (KI5.out _).mono ?_
                rintro e _ ⟨rfl, rfl⟩
                go_wp2
                go_ret
                exact ⟨rfl, BC⟩
              · simp only [errV_5, errV_0]
                go_wp2_with fail
                refine (KI5.out _).mono ?_
                rintro e _ ⟨rfl, rfl⟩
                go_wp2
                go_ret
                exact ⟨rfl, BC⟩
              · simp only [errV_5, errV_0]
                go_wp2_with fail
                refine (KI5.out _).mono ?_
                rintro e _ ⟨rfl, rfl⟩
                go_wp2
                go_ret
                exact ⟨rfl, BC⟩
              · simp only [errV_0]
                have hlt := bnd_grow H0.out HU.out HV1.out HV2.out
                obtain ⟨cv, hcv⟩ : ∃ cv, cv = cmpF p q p' q' := ⟨_, rfl⟩
                have KC := Lib.hid (fun wx => (by have := cmp_any p q p' q' wx; rw [← hcv] at this; exact this : Calls Try.prog 18 #[.agg #[.int .i64 p, .int .i64 q], .agg #[.int .i64 p', .int .i64 q']] wx fun e w' => e = .returned (.int .i64 cv) ∧ Below wx.heap.size wx w'))
                rw [← hcv] at hlt
                have e1 : decide (cv < 0) = true := decide_eq_true hlt
                obtain ⟨y0, y1, y2, _, _⟩ := id hV1'
                obtain ⟨t0, t1, t2, _, _⟩ := id hV2
                clear hlt hcv
                go_wp2_with fail
                refine (KC.out _).mono ?_
                rintro e w20 ⟨rfl, hb20⟩
                have BD := BC.trans (hb20.mono zC)
                go_wp2
                go_ret
                exact ⟨rfl, BD⟩

end Go.Proofs.Ytaomaopbdilmnaa

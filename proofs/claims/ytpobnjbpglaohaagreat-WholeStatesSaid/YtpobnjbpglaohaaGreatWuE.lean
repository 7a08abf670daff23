/- WholeStates: what the loops keep: plain. -/
import Derived.Test.YtpobnjbpglaohaaGreatWuD
import Derived.Test.YtpobnjbpglaohaaGreatWpR
namespace Go.Proofs.YtpobnjbpglaohaaGreat
set_option linter.unusedSimpArgs false
set_option linter.unusedVariables false
open Go Go.RowKit Go.Maps
set_option linter.unusedVariables false

/-- What WholeStates keeps while it searches. -/
structure StI (w W9 Wc : World) (sA base R p mb : Nat) (t : Tsk) (S : List (List Int)) (E : List (Nat × Nat × Nat)) (RE : Value) (es : Array MapEntry) (L : List (Int × Int × Int)) (wb : Nat → Nat) (EA : Option Addr) (EC : Nat) : Prop where
  reg : RegC w base R p mb RE es (pkF t) (pkN t) S L wb
  ed : w.ownsRow Wc.heap.size 64 3 (.slice EA E.length EC) E.length (edC E)
  low : Below base W9 w
  kc : Kb (fun b => b < sA) Wc w
  rw : ∀ b, b < Wc.heap.size → RegOwn R mb RE es b → b < sA
  bx : base ≤ Wc.heap.size
  sx : sA ≤ Wc.heap.size
section
variable {w w' W9 Wc : World} {sA base R p mb : Nat} {t : Tsk} {S : List (List Int)} {E : List (Nat × Nat × Nat)} {RE : Value} {es : Array MapEntry} {L : List (Int × Int × Int)} {wb : Nat → Nat} {EA : Option Addr} {EC : Nat}
theorem StI.bsz (h : StI w W9 Wc sA base R p mb t S E RE es L wb EA EC) : base ≤ w.heap.size := Nat.le_trans h.bx h.kc.size
theorem StI.up (h : StI w W9 Wc sA base R p mb t S E RE es L wb EA EC) (k : Below w.heap.size w w') : StI w' W9 Wc sA base R p mb t S E RE es L wb EA EC :=
  { h with reg := h.reg.keep (Kb.of_below (bad := fun _ => False) k) (fun _ hc => hc.elim) (fun _ hc => hc.elim) (fun _ hc => hc.elim), ed := own_kb1 h.ed (Kb.of_below (bad := fun _ => False) k) (fun _ _ h => h), low := h.low.trans (k.mono h.bsz), kc := h.kc.up k }
theorem StI.add (h : StI w W9 Wc sA base R p mb t S E RE es L wb EA EC) {RE' : Value} {es' : Array MapEntry} {S' : List (List Int)} {L' : List (Int × Int × Int)} {wb' : Nat → Nat} (k : Kb (RegOwn R mb RE es) w w') (hr : RegC w' base R p mb RE' es' (pkF t) (pkN t) S' L' wb') (hrow : ∀ b, b < w.heap.size → RegOwn R mb RE' es' b → RegOwn R mb RE es b) :
    StI w' W9 Wc sA base R p mb t S' E RE' es' L' wb' EA EC :=
  { h with reg := hr, ed := own_kb1 h.ed k (h.reg.ne_row h.ed (by decide) (by decide) (by decide)), low := h.low.trans (h.reg.below k), kc := h.kc.then_ k (fun b hb hr => h.rw b hb hr), rw := fun b hb hr => h.rw b hb (hrow b (Nat.lt_of_lt_of_le hb h.kc.size) hr) }
/-- One edge more. -/
theorem StI.edge {o : Obj} {w1 : World} {a l b : Nat} {A' : Option Addr} {c' : Nat} (h : StI w W9 Wc sA base R p mb t S E RE es L wb EA EC) (hg : (w.alloc o).grownBy w1 (Value.slice EA E.length EC).ownBlock) (hown : w1.ownsRow Wc.heap.size 64 3 (.slice A' (E.length + 1) c') (E.length + 1) (edC E ++ [.int .i64 a, .int .i64 l, .int .i64 b])) :
    StI w1 W9 Wc sA base R p mb t S (E ++ [(a, l, b)]) RE es L wb A' c' := by
  have K : Kb (fun b => (Value.slice EA E.length EC).ownBlock = some b) w w1 := (kb_alloc w o _).trans (kb_grown hg)
  have hlen : (E ++ [(a, l, b)]).length = E.length + 1 := by simp
  have hlt : ∀ b, (Value.slice EA E.length EC).ownBlock = some b → Wc.heap.size ≤ b := fun b hc => (h.ed.lt b hc).1
  refine { reg := ?_, ed := ?_, low := ?_, kc := ?_, rw := h.rw, bx := h.bx, sx := h.sx }
  · refine h.reg.keep K (fun b hc => Nat.le_trans h.bx (hlt b hc)) (fun b hc => h.reg.ne_row h.ed (by decide) (by decide) (by decide) b hc) (fun b hc i hi e => ?_)
    obtain ⟨cur, hcur⟩ := own_blk h.ed hc
    have h2 := h.reg.wds i hi
    unfold BxI at h2
    rw [← e, hcur] at h2
    injection h2 with h2
    injection h2 with _ h2 _
    exact absurd h2 (by decide)
  · rw [hlen, edC_app]
    exact hown
  · exact below_then h.low K (fun b hb hc => by have := hlt b hc; have := h.bx; omega) h.bsz
  · exact h.kc.then_ K (fun b hb hc => by have := hlt b hc; omega)
end
/-- The states' numbers stay. -/
theorem bfs_pre {t : Tsk} (hr : Right t) {i : Nat} : ∀ d, (∀ k, k < i + d → k < (bfs t k).1.length) → (bfs t i).1.length ≤ (bfs t (i + d)).1.length ∧ ∀ a, a < (bfs t i).1.length → stI (bfs t (i + d)).1 a = stI (bfs t i).1 a
  | 0, _ => ⟨Nat.le_refl _, fun _ _ => rfl⟩
  | d + 1, h => by
    obtain ⟨h1, h2⟩ := bfs_pre hr (i := i) d (fun k hk => h k (by omega))
    have hI := bfs_inv hr (i + d) (fun k hk => h k (by omega))
    have hi := h (i + d) (by omega)
    obtain ⟨_, g2, g3⟩ := rnd_inv hr hI hi (hI.ok.st _ (stI_mem hi)) _ (Nat.le_refl _)
    exact ⟨Nat.le_trans h1 g2, fun a ha => (g3 a (Nat.lt_of_lt_of_le ha h1)).trans (h2 a ha)⟩
theorem bEnd_ge {t : Tsk} {i n : Nat} (hn : BEnd t n) (hi : ∀ k, k < i → k < (bfs t k).1.length) : i ≤ n := by
  rcases Nat.lt_or_ge n i with h | h
  · have h1 := hi n h; have h2 := hn.1; omega
  · exact h
theorem bEnd_at {t : Tsk} (hr : Right t) {i n a : Nat} (hn : BEnd t n) (hi : ∀ k, k < i → k < (bfs t k).1.length) (ha : a < (bfs t i).1.length) : a < (bfs t n).1.length ∧ stI (bfs t n).1 a = stI (bfs t i).1 a := by
  have h1 := bEnd_ge hn hi
  have h2 := bfs_pre hr (i := i) (n - i) (by rw [Nat.add_sub_cancel' h1]; exact hn.2)
  rw [Nat.add_sub_cancel' h1] at h2
  exact ⟨Nat.lt_of_lt_of_le ha h2.1, h2.2 a ha⟩
theorem bEnd_init {t : Tsk} (hr : Right t) {n : Nat} (hn : BEnd t n) : stI (bfs t n).1 0 = t.init := by
  have := (bEnd_at hr hn (i := 0) (a := 0) (fun k hk => absurd hk (Nat.not_lt_zero _)) (by simp [bfs])).2
  rw [this]
  rfl
theorem link_zero (t : Tsk) : LinkOk t [t.init] ([] ++ [(-1, -1, 0)]) := fun j hj => by
  have : j = 0 := by simp at hj; omega
  subst this
  exact .inl ⟨rfl, rfl⟩
theorem lnk_app {L : List (Int × Int × Int)} {y : Int × Int × Int} {j : Nat} (hj : j < L.length) : lnk (L ++ [y]) j = lnk L j := by
  unfold lnk; simp [List.getD, List.getElem?_append_left hj]
theorem lnk_new (L : List (Int × Int × Int)) (y : Int × Int × Int) : lnk (L ++ [y]) L.length = y := by
  unfold lnk; simp [List.getD]
theorem link_new {t : Tsk} {S : List (List Int)} {L : List (Int × Int × Int)} {nx : List Int} {i o : Nat} {c : Int} {x : Int × Int × Int} (hl : L.length = S.length) (h : LinkOk t S L) (hi : i < S.length) (ha : apC t (stI S i) (o : Int) = 0) (hn : nxt t (stI S i) o = nx) :
    LinkOk t (S ++ [nx]) ((L ++ [x]).set S.length ((i : Int), (o : Int), c)) := by
  have e : (L ++ [x]).set S.length ((i : Int), (o : Int), c) = L ++ [((i : Int), (o : Int), c)] := by
    rw [← hl, List.set_append_right _ _ (Nat.le_refl _)]
    simp
  rw [e]
  intro j hj
  rw [List.length_append] at hj
  have hj : j < S.length + 1 := hj
  by_cases hlt : j < S.length
  · rw [lnk_app (by omega), stI_app hlt]
    rcases h j hlt with h1 | ⟨p, k, h1, h2, h3, h4, h5⟩
    · exact .inl h1
    · exact .inr ⟨p, k, h1, h2, h3, by rw [stI_app (by omega)]; exact h4, by rw [stI_app (by omega)]; exact h5⟩
  · obtain rfl : j = S.length := by omega
    have e2 : lnk (L ++ [((i : Int), (o : Int), c)]) S.length = ((i : Int), (o : Int), c) := by rw [← hl]; exact lnk_new _ _
    rw [e2, stI_new]
    exact .inr ⟨i, o, rfl, rfl, hi, by rw [stI_app hi]; exact ha, by rw [stI_app hi]; exact hn⟩
theorem rap_yes {t : Tsk} {s : List Int} {k : Nat} (hc : chkC t = 0) (hk : k < t.ops.length) (hs : stB t.vars s = true) (hp : hoB (opr t.ops k).pre s = true) : rapC t s (k : Int) = 0 ∧ rapL t s (k : Int) = nxt t s k := by
  have h1 : rapC t s (k : Int) = 0 := by unfold rapC; rw [if_pos hc]; exact ap_yes hk hs hp
  exact ⟨h1, by unfold rapL; rw [if_pos h1]; rfl⟩
theorem run_yes {t : Tsk} {s r : List Int} {pl : List Int} {c : Int} (hc : chkC t = 0) (hs : stB t.vars s = true) (hp : pl.length ≤ 60000) (h : runS t pl s 0 = (r, c, 0)) : runR t s pl = (r, c, 0) := by
  unfold runR
  rw [if_pos hc, if_pos hs, if_neg (by omega)]
  exact h
end Go.Proofs.YtpobnjbpglaohaaGreat

/- The law SimplexLimits. -/
import Derived.Test.YtaomaopbdilmnaaSxX
import Derived.Test.YtaomaopbdilmnaaLpL
namespace Go.Proofs.Ytaomaopbdilmnaa
set_option linter.unusedSimpArgs false
set_option linter.unusedVariables false
open Go Go.RowKit
set_option linter.unusedVariables false

def upB (s : Int) (k : Nat) : Bool := bits BinOp.and IntKind.u32 (s / 2 ^ k) 1 == 1
/-- The objective, the limits, the sum, the rows. -/
def clL (s : Int) (k : Nat) : List (Int × Int) := (List.range k).map fun j => (if upB s j then 1 else -1, 1)
def blL (k : Nat) : List (Int × Int) := (List.range k).map fun j : Nat => ((j : Int), 1)
def smL (s : Int) : Nat → Nat
  | 0 => 0
  | k + 1 => if upB s k then smL s k + k else smL s k
def idF (i j : Nat) : Rat := if i = j then 1 else 0
def rwL (M : Nat) : List (List (Int × Int)) := (List.range M).map fun i => frq (idF i) M
section
variable {s : Int} {k M j i : Nat}
theorem clL_succ : clL s (k + 1) = clL s k ++ [(if upB s k then 1 else -1, 1)] := by unfold clL; rw [List.range_succ, List.map_append]; rfl
theorem clL_len : (clL s k).length = k := by unfold clL; simp
theorem blL_succ : blL (k + 1) = blL k ++ [((k : Int), 1)] := by unfold blL; rw [List.range_succ, List.map_append]; rfl
theorem blL_len : (blL k).length = k := by unfold blL; simp
theorem rwL_len : (rwL M).length = M := by unfold rwL; simp
theorem clL_at (h : j < k) : fv (clL s k) j = (if upB s j then 1 else -1) ∧ fx (clL s k) j = 1 := by unfold clL fv fx; simp [List.getD, h]
theorem blL_at (h : j < k) : fv (blL k) j = j ∧ fx (blL k) j = 1 := by unfold blL fv fx; simp [List.getD, h]
theorem rwL_at (h : i < M) : mr (rwL M) i = frq (idF i) M := by unfold mr rwL; simp [List.getD, h]
theorem smL_le : ∀ k, smL s k ≤ k * k
  | 0 => Nat.le_refl _
  | k + 1 => by
    have h := smL_le k
    have h2 : (k + 1) * (k + 1) = k * k + 2 * k + 1 := by rw [Nat.mul_add, Nat.add_mul]; omega
    unfold smL
    split <;> omega
theorem idF_rep (i j : Nat) : Rep (idF i j) := by
  unfold idF
  split
  · exact rep_one
  · exact rep_zero
theorem rl_frq {f : Nat → Rat} {N j : Nat} (h : j < N) : rl (frq f N) j = f j := by
  unfold rl
  rw [(frq_at h).1, (frq_at h).2]
  exact num_divInt _
theorem chkL (h : M ≤ 24) : chk37 (clL s M) (rwL M) (blL M) = 0 := by
  unfold chk37
  rw [clL_len, rwL_len, blL_len, if_neg (by omega), if_neg (by omega)]
  have h1 : anyB M (fun i => decide ((mr (rwL M) i).length ≠ M)) = false := anyB_false.2 fun i hi => by rw [rwL_at hi, frq_len]; simp
  have h2 : prL (clL s M) = true := prL_iff.2 fun j hj => by
    rw [clL_len] at hj
    rw [(clL_at hj).1, (clL_at hj).2]
    split <;> decide
  have h3 : prL (blL M) = true := prL_iff.2 fun j hj => by
    rw [blL_len] at hj
    rw [(blL_at hj).1, (blL_at hj).2]
    have := rep_pr (rep_nat (k := j) (by omega))
    rwa [Rat.num_natCast, Rat.den_natCast] at this
  have h4 : anyB M (fun i => !prL (mr (rwL M) i)) = false := anyB_false.2 fun i hi => by
    rw [rwL_at hi, prL_iff.2 fun j hj => ?_]
    · rfl
    · rw [frq_len] at hj
      rw [(frq_at hj).1, (frq_at hj).2]
      exact rep_pr (idF_rep i j)
  have h5 : anyB M (fun i => decide (fv (blL M) i < 0)) = false := anyB_false.2 fun i hi => by rw [(blL_at hi).1]; exact decide_eq_false (by omega)
  rw [h1, h2, h3, h4, h5]
  rfl
theorem chkL5 (h : 24 < M) : chk37 (clL s M) (rwL M) (blL M) = 5 := by
  unfold chk37
  rw [clL_len, if_pos (.inl h)]
theorem rlc (h : j < M) : rl (clL s M) j = if upB s j then 1 else -1 := by
  unfold rl
  rw [(clL_at h).1, (clL_at h).2]
  split <;> rfl
theorem rlb (h : j < M) : rl (blL M) j = (j : Rat) := by
  unfold rl
  rw [(blL_at h).1, (blL_at h).2]
  have := num_divInt (j : Rat)
  rwa [Rat.num_natCast, Rat.den_natCast] at this
theorem limL : LimI M (rl (clL s M)) (fun _ => false) (T37 (clL s M) (rwL M) (blL M)) := by
  have e : T37 (clL s M) (rwL M) (blL M) = tb0 M (fun i j => rl (mr (rwL M) i) j) (rl (blL M)) (rl (clL s M)) := by unfold T37; rw [clL_len]
  rw [e]
  have h0 := lim_begin (n := M) (c := rl (clL s M))
  refine ⟨fun i hi j hj => ?_, fun i hi j hj => ?_, fun i hi => rlb hi, fun j hj => h0.c j hj, fun j hj => h0.c' j hj, h0.z, h0.up⟩
  · show (if j < M then rl (mr (rwL M) i) j else _) = _
    rw [if_pos hj, rwL_at hi, rl_frq hj]
    rfl
  · show (if M + j < M then _ else if M + j = M + i then (1 : Rat) else 0) = _
    rw [if_neg (by omega)]
    by_cases e : j = i
    · rw [if_pos (by omega), if_pos e]
    · rw [if_neg (by omega), if_neg e]
theorem smL_sg : (sg M fun j => if decide (rl (clL s M) j = 1) then (j : Rat) else 0) = (smL s M : Rat) := by
  have h1 : (sg M fun j => if decide (rl (clL s M) j = 1) then (j : Rat) else 0) = sg M fun j => if upB s j then (j : Rat) else 0 := sg_congr M fun j hj => by
    rw [rlc hj]
    cases upB s j
    · rw [if_neg (by decide), if_neg (by decide)]
    · rw [if_pos rfl, if_pos rfl]; rfl
  rw [h1]
  have h2 : ∀ k, (sg k fun j => if upB s j then (j : Rat) else 0) = (smL s k : Rat) := fun k => by
    induction k with
    | zero => rfl
    | succ k ih =>
      show (sg k fun j => if upB s j then (j : Rat) else 0) + (if upB s k then (k : Rat) else 0) = _
      rw [ih, show smL s (k + 1) = if upB s k then smL s k + k else smL s k from rfl]
      split
      · rw [Rat.natCast_add]
      · grind
  exact h2 M
/-- The result. -/
theorem limR (h : M ≤ 24) {R : Res} (hf : Fin (rwL M).length ((clL s M).length + (rwL M).length) (T37 (clL s M) (rwL M) (blL M)) R) : ∃ T, R = .ok T ∧ T.z.num = (smL s M : Int) ∧ (T.z.den : Int) = 1 := by
  rw [rwL_len, clL_len] at hf
  obtain ⟨T, h1, h2⟩ := lim_fin h (fun j hj => by rw [rlc hj]; split <;> simp) limL hf
  refine ⟨T, h1, ?_, ?_⟩
  · rw [h2, smL_sg, Rat.num_natCast]
  · rw [h2, smL_sg, Rat.den_natCast]; rfl
end
/-- The lists under way. -/
structure LimW (w : World) (B M k : Nat) (lc lb : List (Int × Int)) (v6 v7 v8 : Value) (rb cp : Nat → Nat) : Prop where
  c : w.ownsRow B 29 2 v6 lc.length (fc lc)
  b : w.ownsRow B 29 2 v7 lb.length (fc lb)
  r : RwsAt w B k M idF v8 rb cp
  cb : v6.ownBlock = none ∨ v6.ownBlock ≠ v7.ownBlock
  cr : ∀ i, i < k → v6.ownBlock ≠ some (rb i)
  br : ∀ i, i < k → v7.ownBlock ≠ some (rb i)
theorem own_sym {a b : Option Nat} (h : a = none ∨ a ≠ b) : b = none ∨ b ≠ a := by
  rcases h with h | h
  · subst h
    cases b
    · exact .inl rfl
    · exact .inr (by simp)
  · exact .inr (Ne.symm h)
theorem RwsAt.kept2 {w w' : World} {B k N B2 s n : Nat} {F : Nat → Nat → Rat} {v2 v : Value} {rb cp : Nat → Nat} {e : TypeId} {xs : List Value} (h : RwsAt w B k N F v2 rb cp) (ho : w.ownsRow B2 e s v n xs) (hg : w.grownBy w' v.ownBlock) (h1 : 22 ≠ e) (hne : ∀ i, i < k → v.ownBlock ≠ some (rb i)) : RwsAt w' B k N F v2 rb cp :=
  ⟨h.own.kept hg (own_apt3 h.own ho h1), fun i hi => ⟨(h.rows i hi).1, rowGe.grown (h.rows i hi).2 hg (Ne.symm (hne i hi))⟩, h.inj⟩
section
variable {w w' : World} {B M k g : Nat} {lc lb : List (Int × Int)} {v6 v7 v8 v : Value} {rb cp : Nat → Nat} {x y : Int}
theorem LimW.up (h : LimW w B M k lc lb v6 v7 v8 rb cp) (hb : Below w.heap.size w w') : LimW w' B M k lc lb v6 v7 v8 rb cp := ⟨own_below h.c hb, own_below h.b hb, h.r.up hb, h.cb, h.cr, h.br⟩
theorem LimW.alloc (h : LimW w B M k lc lb v6 v7 v8 rb cp) (o : Obj) : LimW (w.alloc o) B M k lc lb v6 v7 v8 rb cp := h.up ((Below.refl _ _).alloc (Nat.le_refl _) _)
theorem LimW.pushC (h : LimW w B M k lc lb v6 v7 v8 rb cp) (ho : w'.ownsRow B 29 2 v (lc.length + 1) (fc lc ++ [.int .i64 x, .int .i64 y])) (hg : w.grownBy w' v6.ownBlock) (hat : v.ownBlock = v6.ownBlock ∨ v.ownBlock = some w.heap.size) : LimW w' B M k (lc ++ [(x, y)]) lb v v7 v8 rb cp where
  c := by rw [List.length_append, fc_app]; exact ho
  b := h.b.kept hg (own_sym h.cb)
  r := h.r.kept2 h.c hg (by decide) h.cr
  cb := by
    rcases hat with e | e
    · rw [e]; exact h.cb
    · exact .inr fun e2 => by have := (h.b.lt w.heap.size (by rw [← e2, e])).2; omega
  cr := fun i hi => by
    rcases hat with e | e
    · rw [e]; exact h.cr i hi
    · rw [e]
      intro e2
      injection e2 with e2
      have := (h.r.rows i hi).2.lt
      omega
  br := h.br
theorem LimW.pushB (h : LimW w B M k lc lb v6 v7 v8 rb cp) (ho : w'.ownsRow B 29 2 v (lb.length + 1) (fc lb ++ [.int .i64 x, .int .i64 y])) (hg : w.grownBy w' v7.ownBlock) (hat : v.ownBlock = v7.ownBlock ∨ v.ownBlock = some w.heap.size) : LimW w' B M k lc (lb ++ [(x, y)]) v6 v v8 rb cp where
  c := h.c.kept hg h.cb
  b := by rw [List.length_append, fc_app]; exact ho
  r := h.r.kept2 h.b hg (by decide) h.br
  cb := by
    rcases hat with e | e
    · rw [e]; exact h.cb
    · exact .inr fun e2 => by have := (h.c.lt w.heap.size (by rw [e2, e])).2; omega
  cr := h.cr
  br := fun i hi => by
    rcases hat with e | e
    · rw [e]; exact h.br i hi
    · rw [e]
      intro e2
      injection e2 with e2
      have := (h.r.rows i hi).2.lt
      omega
theorem fc_set (l : List (Int × Int)) (x x' y : Int) : (fc (l ++ [(x, y)])).set (l.length * 2) (.int .i64 x') = fc (l ++ [(x', y)]) := by
  rw [fc_app, fc_app, ← fc_len, List.set_append_right _ _ (Nat.le_refl _), Nat.sub_self]
  rfl
theorem fc_last {l : List (Int × Int)} {x y : Int} (h : l.length = k) : (fc (l ++ [(x, y)]))[k * 2]? = some (.int .i64 x) := by
  subst h
  rw [(fc_get (l ++ [(x, y)]) l.length (by simp)).1]
  unfold fv
  simp [List.getD]
theorem LimW.setC {c : Nat} (h : LimW w B M k (lc ++ [(x, y)]) lb (.slice (some ⟨g, 0, none⟩) (lc.length + 1) c) v7 v8 rb cp) (x' : Int) : LimW (w.setCell ⟨g, lc.length * 2, none⟩ (.int .i64 x')) B M k (lc ++ [(x', y)]) lb (.slice (some ⟨g, 0, none⟩) (lc.length + 1) c) v7 v8 rb cp := by
  have hc := h.c
  rw [List.length_append] at hc
  obtain ⟨h1, hg⟩ := World.ownsRow.stored hc (lc.length * 2) (.int .i64 x')
  rw [fc_set] at h1
  exact ⟨by rw [List.length_append]; exact h1, h.b.kept hg (own_sym h.cb), h.r.kept2 h.c hg (by decide) h.cr, h.cb, h.cr, h.br⟩
theorem LimW.pushR (h : LimW w B M k lc lb v6 v7 v8 rb cp) (hr : FrRow w g M (idF k)) (hB : B ≤ g) (hn : ∀ i, i < k → rb i < g) (h6 : ∀ x, v6.ownBlock = some x → x < g) (h7 : ∀ x, v7.ownBlock = some x → x < g) {c : Nat} (ho : w'.ownsRow B 22 1 v (k + 1) (((List.range k).map fun i => .slice (some ⟨rb i, 0, none⟩) M (cp i)) ++ [.slice (some ⟨g, 0, none⟩) M c])) (hg : w.grownBy w' v8.ownBlock) : LimW w' B M (k + 1) lc lb v6 v7 v (upn rb k g) (upn cp k c) where
  c := h.c.kept hg (own_apt3 h.c h.r.own (by decide))
  b := h.b.kept hg (own_apt3 h.b h.r.own (by decide))
  r := h.r.push hr hB hn ho hg
  cb := h.cb
  cr := fun i hi e => by
    unfold upn at e
    split at e
    · have := h6 _ e; omega
    · exact h.cr i (by omega) e
  br := fun i hi e => by
    unfold upn at e
    split at e
    · have := h7 _ e; omega
    · exact h.br i (by omega) e
theorem LimW.nil (w : World) (B M : Nat) (rb cp : Nat → Nat) : LimW w B M 0 [] [] (.slice none 0 0) (.slice none 0 0) (.slice none 0 0) rb cp :=
  ⟨World.ownsRow_nil _ _ _ _, World.ownsRow_nil _ _ _ _, RwsAt.nil, .inl rfl, fun i hi => absurd hi (by omega), fun i hi => absurd hi (by omega)⟩
theorem fr_one (h : FrRow w g M (fun _ => 0)) : FrRow (w.setCell ⟨g, k * 2, none⟩ (.int .i64 1)) g M (idF k) := by
  refine (rowGe.set h _ _).congr fun i hi => ?_
  unfold frc idF
  by_cases e : i = k * 2
  · subst e
    rw [if_pos rfl, if_pos (by omega), show k * 2 / 2 = k by omega, if_pos rfl]
    rfl
  · rw [if_neg e]
    by_cases e2 : i % 2 = 0
    · rw [if_pos e2, if_pos e2, if_neg (by omega)]
    · rw [if_neg e2, if_neg e2]
      split <;> rfl
theorem LimW.mx (h : LimW w B M M lc lb v6 v7 v8 rb cp) (hM : M ≤ 100) : ∃ A c, v8 = .slice A M c ∧ MxAt w A (rwL M) := by
  rcases h.r.own.2 with ⟨rfl, h0⟩ | ⟨b, cap, cur, rfl, hb, hg, hh⟩
  · exact ⟨none, 0, by rw [h0], by rw [rwL_len]; omega, fun hp => by rw [rwL_len] at hp; omega⟩
  · refine ⟨_, cap, rfl, by rw [rwL_len]; omega, fun _ => ⟨b, 0, rfl, (Array.getElem?_eq_some_iff.1 hg).1, fun i hi => ?_⟩⟩
    rw [rwL_len] at hi
    have h1 := (World.ownsRow.cellAt h.r.own i (by omega)).trans (show _ = some (Value.slice (some ⟨rb i, 0, none⟩) M (cp i)) by simp [hi])
    refine ⟨some ⟨rb i, 0, none⟩, cp i, ?_, fun e => (by cases e), ?_⟩
    · rw [rwL_at hi, frq_len, Nat.zero_add]
      exact h1
    · rw [rwL_at hi]
      exact fr_facts (h.r.rows i hi).2 (by omega)
end

set_option maxRecDepth 100000 in
set_option maxHeartbeats 8000000 in
theorem simplexLimits_any (n s : Int) (w : World) (hn0 : 0 ≤ n) (hn : n ≤ 255) :
    Calls Try.prog 5 #[.int .u8 n, .int .u32 s] w fun e w' => e = .returned (.bool true) ∧ Below w.heap.size w w' := by
  have KA := Lib.hid awake37_any
  have KS := Lib.hid (fun M A6 A7 A8 c6 c7 c8 wx (h1 : FactsAt wx wx.heap.size A6 (clL s M)) (h2 : MxAt wx A8 (rwL M)) (h3 : FactsAt wx wx.heap.size A7 (blL M)) => (by have := solve_any (clL s M) (rwL M) (blL M) A6 A8 A7 c6 c8 c7 wx h1 h2 h3; rw [clL_len, rwL_len, blL_len] at this; exact this : Calls Try.prog 15 #[.slice A6 M c6, .slice A8 M c8, .slice A7 M c7] wx fun e w' => SolRet (clL s M) (rwL M) (blL M) e w' ∧ Below wx.heap.size wx w'))
  have KI := Lib.hid (fun wx => is_any 5 5 wx (by decide))
  obtain ⟨inf, hi, iz0, iz1, iz2⟩ := info_parts infoC
  obtain ⟨inr, hir, jz0, jz1, jz2⟩ := info_parts infoR7
  obtain ⟨M, hM⟩ : ∃ M : Nat, n % 27 = (M : Int) := ⟨(n % 27).toNat, by omega⟩
  have hM27 : M ≤ 26 := by omega
  go_enter Try.func5, Try.ntmps5
  go_wp2_with fail
  refine (KA.out _).mono ?_
  rintro e w3 ⟨rfl, hb3⟩
  have z3 := hb3.size
  have e0 : IntKind.i64.wrap n = n := IntWalk.i64_in n (by omega)
  go_wp2
  rw [hM]
  clear e0 hM
  have hmk := make_fr M (by omega)
  have Hmk := Lib.hid hmk
  clear hmk
  go_loopw [6, 7, 8, 9, 24] (fun v6 v7 v8 v9 i wr => ∃ (k : Nat) (A6 A7 A8 : Option Addr) (c6 c7 c8 : Nat) (rb cp : Nat → Nat), k ≤ M ∧ i = .int .i64 k ∧ v6 = .slice A6 k c6 ∧ v7 = .slice A7 k c7 ∧ v8 = .slice A8 k c8 ∧ v9 = .int .i64 (smL s k : Nat) ∧ Hid (LimW wr w.heap.size M k (clL s k) (blL k) (.slice A6 k c6) (.slice A7 k c7) (.slice A8 k c8) rb cp) ∧ Below w.heap.size w wr) (fun _ _ _ _ i _ => M - (intOf i).toNat)
  case atStart => exact ⟨0, none, none, none, 0, 0, 0, id, id, by omega, rfl, rfl, rfl, rfl, rfl, Lib.hid (LimW.nil _ _ _ _ _), hb3⟩
  case round =>
    obtain ⟨k, A6, A7, A8, c6, c7, c8, rb, cp, hk, rfl, rfl, rfl, rfl, rfl, L, hbel⟩ := hrel
    have hbz := hbel.size
    by_cases hlt : k < M
    · have k0 : (0 : Int) ≤ (k : Int) := by omega
      have k1 : (k : Int) < (M : Int) := by omega
      have Hl6 := Lib.hid (clL_len (s := s) (k := k))
      have Hl7 := Lib.hid (blL_len (k := k))
      have HC := Lib.hid (clL_succ (s := s) (k := k))
      have HB := Lib.hid (blL_succ (k := k))
      obtain ⟨lc, hlc⟩ : ∃ lc, lc = clL s k := ⟨_, rfl⟩
      obtain ⟨lb, hlb⟩ : ∃ lb, lb = blL k := ⟨_, rfl⟩
      rw [← hlc] at L Hl6 HC
      rw [← hlb] at L Hl7 HB
      clear hlc hlb
      have HS : Hid (smL s (k + 1) = if upB s k then smL s k + k else smL s k) := Lib.hid rfl
      have Hsm := Lib.hid (smL_le (s := s) k)
      obtain ⟨sm, hsm⟩ : ∃ sm, sm = smL s k := ⟨_, rfl⟩
      rw [← hsm] at HS Hsm
      rw [← hsm]
      clear hsm
      have hsmb : sm ≤ 1000 := by have := Hsm.out; have h2 : k * k ≤ 26 * 26 := Nat.mul_le_mul (by omega) (by omega); omega
      have es : IntKind.i64.wrap ((sm : Int) + (k : Int)) = (sm : Int) + (k : Int) := IntWalk.i64_in _ (by omega)
      cases e : (bits BinOp.and IntKind.u32 (s / 2 ^ k) 1 == 1)
      case' false =>
        have HU := Lib.hid (show upB s k = false from e)
        go_upto_region 15 with (first | (at_builtin; (refine wpList_push rfl _ _ 22 rfl w.heap.size 29 inf (.agg #[.int .i64 0, .int .i64 0]) 2 16 undC hi iz0 iz1 iz2 rfl (by decide) (by decide) _ lc.length (fc lc) rfl (L.out.c.alloc _) wr.heap.size 29 [.int .i64 (-1), .int .i64 1] rfl rfl (heap_alloc_new _ _) (two_one rfl rfl) (by have := Hl6.out; omega) (by first | omega | (simp; omega)) (B := w.heap.size) (W := w) (hbel.alloc hbz _) (Nat.le_refl _) ?_); intro v8 w8 ho8 hg8 hat8 hb8; have L8 := Lib.hid (LimW.pushC (L.out.alloc _) ho8 hg8 hat8); have z8 := hb8.size; clear ho8 hg8 hat8) | (at_builtin; refine wpList_push rfl _ _ 22 rfl w.heap.size 29 inf (.agg #[.int .i64 0, .int .i64 0]) 2 16 undC hi iz0 iz1 iz2 rfl (by decide) (by decide) _ lb.length (fc lb) rfl (L8.out.b.alloc _) w8.heap.size 29 [.int .i64 (k : Int), .int .i64 1] rfl rfl (heap_alloc_new _ _) (two_one rfl rfl) (by have := Hl7.out; omega) (by first | omega | (simp; omega)) (B := w.heap.size) (W := w) (hb8.alloc z8 _) (Nat.le_refl _) ?_; intro v9 w9 ho9 hg9 hat9 hb9; have L9 := Lib.hid (LimW.pushB (L8.out.alloc _) ho9 hg9 hat9); obtain ⟨A9, c9, rfl⟩ := own_shapeL ho9 (show lb.length + 1 = k + 1 by rw [Hl7.out]); obtain ⟨g6, cap6, rfl, hg6, d2⟩ := World.ownsRow.form (own_len L9.out.c (show (lc ++ [((-1 : Int), (1 : Int))]).length = k + 1 by rw [List.length_append, Hl6.out]; rfl)) (Nat.succ_pos k); have d0 : w9.cell? ⟨g6, k * 2, none⟩ = some (.int .i64 (-1)) := (World.ownsRow.cellAt (own_len L9.out.c (show (lc ++ [((-1 : Int), (1 : Int))]).length = k + 1 by rw [List.length_append, Hl6.out]; rfl)) (k * 2) (by omega)).trans (fc_last Hl6.out); have d1 : w9.frozen? ⟨g6, k * 2, none⟩ = false := World.ownsRow.frozenAt (own_len L9.out.c (show (lc ++ [((-1 : Int), (1 : Int))]).length = k + 1 by rw [List.length_append, Hl6.out]; rfl)) _; clear ho9 hg9 hat9 L8 hb8 z8))
        obtain ⟨w10, hw10⟩ : ∃ w10, w10 = w9 := ⟨_, rfl⟩
        have L10 := Lib.hid (show LimW w10 w.heap.size M k (clL s (k + 1)) (blL (k + 1)) (.slice (some ⟨g6, 0, none⟩) (k + 1) cap6) (.slice A9 (k + 1) c9) (.slice A8 k c8) rb cp by rw [hw10, HC.out, HU.out, HB.out]; exact L9.out)
        have hb10 : Below w.heap.size w w10 := by rw [hw10]; exact hb9
        have HS2 := Lib.hid (show (sm : Int) = ((smL s (k + 1) : Nat) : Int) by rw [HS.out, HU.out]; rfl)
        rw [← hw10]
        clear hw10
      case' true =>
        have HU := Lib.hid (show upB s k = true from e)
        go_upto_region 15 with (first | (at_builtin; (refine wpList_push rfl _ _ 22 rfl w.heap.size 29 inf (.agg #[.int .i64 0, .int .i64 0]) 2 16 undC hi iz0 iz1 iz2 rfl (by decide) (by decide) _ lc.length (fc lc) rfl (L.out.c.alloc _) wr.heap.size 29 [.int .i64 (-1), .int .i64 1] rfl rfl (heap_alloc_new _ _) (two_one rfl rfl) (by have := Hl6.out; omega) (by first | omega | (simp; omega)) (B := w.heap.size) (W := w) (hbel.alloc hbz _) (Nat.le_refl _) ?_); intro v8 w8 ho8 hg8 hat8 hb8; have L8 := Lib.hid (LimW.pushC (L.out.alloc _) ho8 hg8 hat8); have z8 := hb8.size; clear ho8 hg8 hat8) | (at_builtin; refine wpList_push rfl _ _ 22 rfl w.heap.size 29 inf (.agg #[.int .i64 0, .int .i64 0]) 2 16 undC hi iz0 iz1 iz2 rfl (by decide) (by decide) _ lb.length (fc lb) rfl (L8.out.b.alloc _) w8.heap.size 29 [.int .i64 (k : Int), .int .i64 1] rfl rfl (heap_alloc_new _ _) (two_one rfl rfl) (by have := Hl7.out; omega) (by first | omega | (simp; omega)) (B := w.heap.size) (W := w) (hb8.alloc z8 _) (Nat.le_refl _) ?_; intro v9 w9 ho9 hg9 hat9 hb9; have L9 := Lib.hid (LimW.pushB (L8.out.alloc _) ho9 hg9 hat9); obtain ⟨A9, c9, rfl⟩ := own_shapeL ho9 (show lb.length + 1 = k + 1 by rw [Hl7.out]); obtain ⟨g6, cap6, rfl, hg6, d2⟩ := World.ownsRow.form (own_len L9.out.c (show (lc ++ [((-1 : Int), (1 : Int))]).length = k + 1 by rw [List.length_append, Hl6.out]; rfl)) (Nat.succ_pos k); have d0 : w9.cell? ⟨g6, k * 2, none⟩ = some (.int .i64 (-1)) := (World.ownsRow.cellAt (own_len L9.out.c (show (lc ++ [((-1 : Int), (1 : Int))]).length = k + 1 by rw [List.length_append, Hl6.out]; rfl)) (k * 2) (by omega)).trans (fc_last Hl6.out); have d1 : w9.frozen? ⟨g6, k * 2, none⟩ = false := World.ownsRow.frozenAt (own_len L9.out.c (show (lc ++ [((-1 : Int), (1 : Int))]).length = k + 1 by rw [List.length_append, Hl6.out]; rfl)) _; clear ho9 hg9 hat9 L8 hb8 z8))
        obtain ⟨w10, hw10⟩ : ∃ w10, w10 = w9.setCell ⟨g6, k * 2, none⟩ (.int .i64 1) := ⟨_, rfl⟩
        have L10 := Lib.hid (show LimW w10 w.heap.size M k (clL s (k + 1)) (blL (k + 1)) (.slice (some ⟨g6, 0, none⟩) (k + 1) cap6) (.slice A9 (k + 1) c9) (.slice A8 k c8) rb cp by
          rw [hw10, HC.out, HU.out, HB.out]
          have h1 := L9.out
          have h2 := Hl6.out
          rw [← h2] at h1
          have h3 := h1.setC 1
          rw [h2] at h3
          exact h3)
        have hb10 : Below w.heap.size w w10 := by rw [hw10]; exact hb9.setCell hg6 _
        have HS2 := Lib.hid (show (sm : Int) + (k : Int) = ((smL s (k + 1) : Nat) : Int) by rw [HS.out, HU.out, if_pos rfl]; omega)
        rw [← hw10]
        clear hw10
      all_goals
        clear L9 L hbel hbz hb9 d0 d1 d2 es e
        have z10 := hb10.size
        have hmk := Hmk.out
        go_wp2
        clear hmk
        go_loopw [53] (fun i wr => ∃ j : Nat, j ≤ M ∧ i = .int .i64 j ∧ Hid (rowGe wr w10.heap.size 29 (M * 2) (prg j fun _ => 0)) ∧ Below w10.heap.size w10 wr) (fun i _ => M - (intOf i).toNat)
        case atStart => exact ⟨0, by omega, rfl, Lib.hid (prg_start (zrow_row w10 M)), (Below.refl _ _).alloc (Nat.le_refl _) _⟩
        case round =>
          obtain ⟨j, hj, rfl, hrow, hbj⟩ := hrel
          have zj := hbj.size
          by_cases hltj : j < M
          · have j0 : (0 : Int) ≤ (j : Int) := by omega
            have j1 : (j : Int) < (M : Int) := by omega
            obtain ⟨r0, r1⟩ := prg_cell hrow.out hltj
            have r2 := rowGe.frozen hrow.out (j * 2)
            have r3 := rowGe.frozen hrow.out (j * 2 + 1)
            have r4 := rowGe.lt hrow.out
            go_wp2
            go_roundw
            case rel => exact ⟨j + 1, by omega, by go_num, Lib.hid (prg_step hrow.out rfl rfl), (hbj.setCell (p := ⟨w10.heap.size, j * 2, none⟩) (Nat.le_refl _) _).setCell (p := ⟨w10.heap.size, j * 2 + 1, none⟩) (Nat.le_refl _) _⟩
            case measure => simp [intOf]; omega
          · obtain rfl : M = j := by omega
            have hfr := prg_end hrow.out
            have r0 := hfr.num hlt
            have r2 := hfr.frozen (k * 2)
            have r4 := hfr.lt
            have FR := Lib.hid (fr_one (k := k) hfr)
            obtain ⟨G, hG⟩ : ∃ G, G = w10.heap.size := ⟨_, rfl⟩
            have LE := Lib.hid (L10.out.up (hbj.setCell (p := ⟨w10.heap.size, k * 2, none⟩) (Nat.le_refl _) (.int .i64 1)))
            have hbE : Below w.heap.size w (wr.setCell ⟨w10.heap.size, k * 2, none⟩ (.int .i64 1)) := hb10.trans ((hbj.setCell (p := ⟨w10.heap.size, k * 2, none⟩) (Nat.le_refl _) (.int .i64 1)).mono z10)
            have hn : Hid (∀ i, i < k → rb i < G) := Lib.hid fun i hi => by rw [hG]; exact (L10.out.r.rows i hi).2.lt
            have h6 : Hid (∀ x, Value.ownBlock (.slice (some ⟨g6, 0, none⟩) (k + 1) cap6) = some x → x < G) := Lib.hid fun x hx => by rw [hG]; exact (L10.out.c.lt x hx).2
            have h7 : Hid (∀ x, Value.ownBlock (.slice A9 (k + 1) c9) = some x → x < G) := Lib.hid fun x hx => by rw [hG]; exact (L10.out.b.lt x hx).2
            have zG : w.heap.size ≤ G := by omega
            rw [← hG] at FR LE hbE r0 r2 r4 ⊢
            clear hfr hrow L10 hbj hG
            go_upto_region 22 with fail
            obtain ⟨wE, hwE⟩ : ∃ wE, wE = wr.setCell ⟨G, k * 2, none⟩ (.int .i64 1) := ⟨_, rfl⟩
            rw [← hwE] at FR LE hbE ⊢
            clear hwE r0 r2 r4
            have zE := hbE.size
            go_wp2_with (at_builtin; refine wpList_push rfl _ _ 23 rfl w.heap.size 22 inr (.slice none 0 0) 1 24 undR7 hir jz0 jz1 jz2 rfl (by decide) (by decide) _ k ((List.range k).map fun i => .slice (some ⟨rb i, 0, none⟩) M (cp i)) rfl (LE.out.r.own.alloc _) wE.heap.size 22 [.slice (some ⟨G, 0, none⟩) M M] rfl rfl (heap_alloc_new _ _) (one_one rfl) (by omega) (by first | omega | (simp; omega)) (B := w.heap.size) (W := w) (hbE.alloc zE _) (Nat.le_refl _) ?_; intro v11 w11 ho11 hg11 hat11 hb11; have L11 := Lib.hid (LimW.pushR (LE.out.alloc _) (FR.out.up ((Below.refl _ _).alloc (Nat.le_refl _) _)) zG hn.out h6.out h7.out ho11 hg11); obtain ⟨A11, c11, rfl⟩ := own_shape ho11; clear ho11 hg11 hat11)
            go_roundw
            case rel => exact ⟨k + 1, _, _, _, _, _, _, _, _, by omega, by go_num, rfl, rfl, rfl, by rw [HS2.out], L11, hb11⟩
            case measure => simp [intOf]; omega
    · obtain rfl : M = k := by omega
      obtain ⟨a6, x6, e6, _, F6⟩ := own_fracs L.out.c (by rw [clL_len]; omega)
      obtain ⟨a7, x7, e7, _, F7⟩ := own_fracs L.out.b (by rw [blL_len]; omega)
      obtain ⟨a8, x8, e8, F8⟩ := L.out.mx (by omega)
      injection e6 with e61 e62 e63
      injection e7 with e71 e72 e73
      injection e8 with e81 e82 e83
      subst e61 e71 e81
      have K := Lib.hid (KS.out M A6 A7 A8 c6 c7 c8 wr F6 F8 F7)
      clear e62 e63 e72 e73 e82 e83 F6 F7 F8 L
      go_wp2_with fail
      refine K.out.mono ?_
      rintro e w5 ⟨hs, hb5⟩
      have B5 := hbel.trans (hb5.mono hbz)
      have z5 := B5.size
      clear hb5 K hbel hbz
      by_cases h24 : M ≤ 24
      · rcases hs with ⟨hne, he⟩ | ⟨h0, ⟨cd, hf, he⟩ | ⟨T, hf, bx, bY, he, _, _⟩⟩
        · exact absurd (chkL h24) hne
        · obtain ⟨T, hT, _⟩ := limR h24 hf
          cases hT
        · obtain ⟨T', hT, hn', hd⟩ := limR h24 hf
          injection hT with hT
          subst hT
          rw [hn', hd, rwL_len, clL_len] at he
          subst he
          have e1 : decide ((24 : Int) < (M : Int)) = false := decide_eq_false (by omega)
          clear hn' hd hf h0
          go_wp2
          go_ret
          exact ⟨rfl, by repeat (first | exact Below.refl _ _ | refine below_dN ?_ _ | refine Below.drew ?_ | refine Below.alloc ?_ (by first | omega | (simp; done) | (simp; omega)) _ | refine Below.setCell ?_ (by first | omega | (simp; done) | (simp; omega)) _ | refine below_step (by assumption) (by first | omega | (simp; done) | (simp; omega)) ?_)⟩
      · have h5 := chkL5 (s := s) (M := M) (by omega)
        rcases hs with ⟨hne, he⟩ | ⟨h0, _⟩
        · rw [h5] at he
          obtain rfl := he
          have e1 : decide ((24 : Int) < (M : Int)) = true := decide_eq_true (by omega)
          have KI' := KI.out
          rw [errV_5] at KI'
          have KI2 := Lib.hid KI'
          clear KI' hne h5 h24
          go_wp2_with fail
          refine (KI2.out _).mono ?_
          rintro e _ ⟨rfl, rfl⟩
          go_wp2
          go_ret
          exact ⟨rfl, by repeat (first | exact Below.refl _ _ | refine below_dN ?_ _ | refine Below.drew ?_ | refine Below.alloc ?_ (by first | omega | (simp; done) | (simp; omega)) _ | refine Below.setCell ?_ (by first | omega | (simp; done) | (simp; omega)) _ | refine below_step (by assumption) (by first | omega | (simp; done) | (simp; omega)) ?_)⟩
        · rw [h5] at h0; exact absurd h0 (by decide)

end Go.Proofs.Ytaomaopbdilmnaa

/- Landmarks, plain: the unary operators; a finder in memory. -/
import Derived.Test.YtenmeiplglbafaaLmP
import Derived.Test.YtenmeiplglbafaaKb
import Derived.Test.YtenmeiplglbafaaRowGe
namespace Go.Proofs.Ytenmeiplglbafaa
set_option linter.unusedSimpArgs false
set_option linter.unusedVariables false
open Go Go.RowKit
set_option linter.unusedVariables false

/-- An operator with one of its effects. -/
structure Un where
  op : Nat
  needs : List (Int × Int)
  var : Int
  val : Int
def mkU (t : Tsk) (k j : Nat) : Un := ⟨k, (opr t.ops k).pre ++ (eff (opr t.ops k).effs j).whn, (eff (opr t.ops k).effs j).var, (eff (opr t.ops k).effs j).val⟩
def usO (t : Tsk) (k j : Nat) : List Un := (List.range j).map (mkU t k)
def usN (t : Tsk) (k : Nat) : List Un := (List.range k).flatMap fun i => usO t i (opr t.ops i).effs.length
def usK (t : Tsk) (k j : Nat) : List Un := usN t k ++ usO t k j
def us (t : Tsk) : List Un := usN t t.ops.length
def un (l : List Un) (k : Nat) : Un := l.getD k ⟨0, [], 0, 0⟩
def cosN (t : Tsk) (k : Nat) : List Int := (List.range k).map fun i => (opr t.ops i).cost
theorem cosN_succ (t : Tsk) (k : Nat) : cosN t (k + 1) = cosN t k ++ [(opr t.ops k).cost] := by unfold cosN; rw [List.range_succ, List.map_append]; rfl
theorem cosN_len (t : Tsk) (k : Nat) : (cosN t k).length = k := by unfold cosN; simp
theorem cosN_nth {t : Tsk} {k i : Nat} (h : i < k) : nth (cosN t k) i = (opr t.ops i).cost := by unfold cosN nth; simp [List.getD, h]
section
variable {t : Tsk}
theorem usO_succ (k j : Nat) : usO t k (j + 1) = usO t k j ++ [mkU t k j] := by unfold usO; rw [List.range_succ, List.map_append]; rfl
theorem usO_len (k j : Nat) : (usO t k j).length = j := by unfold usO; simp
theorem usK_zero (k : Nat) : usK t k 0 = usN t k := by unfold usK usO; simp
theorem usK_succ (k j : Nat) : usK t k (j + 1) = usK t k j ++ [mkU t k j] := by unfold usK; rw [usO_succ, List.append_assoc]
theorem usK_end (k : Nat) : usK t k (opr t.ops k).effs.length = usN t (k + 1) := by unfold usK usN; rw [List.range_succ, List.flatMap_append]; simp
theorem usN_len (h : ∀ k, k < t.ops.length → (opr t.ops k).effs.length ≤ 64) : ∀ k, k ≤ t.ops.length → (usN t k).length ≤ k * 64
  | 0, _ => Nat.zero_le _
  | k + 1, hk => by
    rw [← usK_end]
    unfold usK
    rw [List.length_append, usO_len]
    have h1 := usN_len h k (by omega)
    have h2 := h k (by omega)
    omega
theorem mem_us {u : Un} : u ∈ us t ↔ ∃ k, k < t.ops.length ∧ ∃ j, j < (opr t.ops k).effs.length ∧ u = mkU t k j := by
  unfold us usN usO
  simp only [List.mem_flatMap, List.mem_range, List.mem_map]
  constructor
  · rintro ⟨k, hk, j, hj, rfl⟩; exact ⟨k, hk, j, hj, rfl⟩
  · rintro ⟨k, hk, j, hj, rfl⟩; exact ⟨k, hk, j, hj, rfl⟩
theorem un_mem {l : List Un} {k : Nat} (h : k < l.length) : un l k ∈ l := by unfold un; simp [List.getD, List.getElem?_eq_getElem h]
theorem mem_un {l : List Un} {u : Un} (h : u ∈ l) : ∃ k, k < l.length ∧ un l k = u := by
  obtain ⟨k, hk, rfl⟩ := List.mem_iff_getElem.1 h
  exact ⟨k, hk, by unfold un; simp [List.getD, List.getElem?_eq_getElem hk]⟩
/-- Closed, by the list. -/
theorem clos_us {a : Int × Int} {M : Nat → Nat → Bool} (h : ∀ i, i < (us t).length → ((un (us t) i).var, (un (us t) i).val) ≠ a → hsM (un (us t) i).needs M = true → M (un (us t) i).var.toNat (un (us t) i).val.toNat = true) : ClosM t a M := fun k hk j hj hne hp hw => by
  obtain ⟨i, hi, e⟩ := mem_un (mem_us.2 ⟨k, hk, j, hj, rfl⟩)
  have := h i hi
  rw [e] at this
  exact this hne (by show hsM (_ ++ _) M = true; rw [hsM_app, hp, hw]; rfl)
/-- What an entry of the list is. -/
structure UnR (t : Tsk) (u : Un) : Prop where
  op : u.op < t.ops.length
  v0 : 0 ≤ u.var
  v1 : u.var < t.vars.length
  x0 : 0 ≤ u.val
  x1 : u.val < nth t.vars u.var.toNat
  rng : ∀ i, i < u.needs.length → 0 ≤ fv u.needs i ∧ fv u.needs i < t.vars.length ∧ 0 ≤ fx u.needs i ∧ fx u.needs i < nth t.vars (fv u.needs i).toNat
  len : u.needs.length ≤ 128
theorem un_right (hr : Right t) {u : Un} (h : u ∈ us t) : UnR t u := by
  obtain ⟨k, hk, j, hj, rfl⟩ := mem_us.1 h
  have he := hr.eff k hk j hj
  have key : ∀ i, i < ((opr t.ops k).pre ++ (eff (opr t.ops k).effs j).whn).length → 0 ≤ fv ((opr t.ops k).pre ++ (eff (opr t.ops k).effs j).whn) i ∧ fv ((opr t.ops k).pre ++ (eff (opr t.ops k).effs j).whn) i < t.vars.length ∧ 0 ≤ fx ((opr t.ops k).pre ++ (eff (opr t.ops k).effs j).whn) i ∧ fx ((opr t.ops k).pre ++ (eff (opr t.ops k).effs j).whn) i < nth t.vars (fv ((opr t.ops k).pre ++ (eff (opr t.ops k).effs j).whn) i).toNat := fun i hi => by
    by_cases e : i < (opr t.ops k).pre.length
    · rw [fv_left e, fx_left e]; exact fa_at (hr.pre k hk) e
    · obtain ⟨d, rfl⟩ : ∃ d, i = (opr t.ops k).pre.length + d := ⟨i - (opr t.ops k).pre.length, by omega⟩
      rw [fv_right, fx_right]
      exact fa_at (hr.whn k hk j hj) (by rw [List.length_append] at hi; omega)
  refine ⟨hk, he.1, he.2.1, he.2.2.1, he.2.2.2, key, ?_⟩
  · have h1 := hr.np k hk
    have h2 := hr.nw k hk j hj
    simp only [mkU, List.length_append]; omega
theorem rc_markU (hr : Right t) {s : List Int} {a : Int × Int} {M : Nat → Nat → Bool} (h : RcI t s a M) {u : Un} (hu : u ∈ us t) (hne : (u.var, u.val) ≠ a) (hs : hsM u.needs M = true) : RcI t s a (put2 M u.var.toNat u.val.toNat) := by
  obtain ⟨k, hk, j, hj, rfl⟩ := mem_us.1 hu
  have h2 : hsM ((opr t.ops k).pre ++ (eff (opr t.ops k).effs j).whn) M = true := hs
  rw [hsM_app, Bool.and_eq_true] at h2
  exact rc_mark hr h hk hj hne h2.1 h2.2
end

/-- Facts that lie at the beginning of a block of facts, not below lo. -/
def FaB (w : World) (lo : Nat) (S : Option Addr) (l : List (Int × Int)) : Prop := l.length ≤ 1000000 ∧ (0 < l.length → ∃ b cur, S = some ⟨b, 0, none⟩ ∧ lo ≤ b ∧ w.heap[b]? = some (.cells cur 48 (0, 0)) ∧ ∀ k, k < l.length → cur[k * 2]? = some (.int .i64 (fv l k)) ∧ cur[k * 2 + 1]? = some (.int .i64 (fx l k)))
def UnIs (w : World) (lo : Nat) (xs : List Value) (l : List Un) : Prop := ∀ k, k < l.length → ∃ S c, xs[k * 4]? = some (.int .i64 (un l k).op) ∧ xs[k * 4 + 1]? = some (.slice S (un l k).needs.length c) ∧ FaB w lo S (un l k).needs ∧ xs[k * 4 + 2]? = some (.int .i64 (un l k).var) ∧ xs[k * 4 + 3]? = some (.int .i64 (un l k).val)
def LstB (w : World) (lo : Nat) (v : Value) (l : List Un) : Prop := ∃ xs, w.ownsRow lo 86 4 v l.length xs ∧ UnIs w lo xs l
def UnsAt (w : World) (B : Nat) (A : Option Addr) (l : List Un) : Prop := 0 < l.length → ∃ b, A = some ⟨b, 0, none⟩ ∧ b < B ∧ ∀ k, k < l.length → ∃ S c, w.cell? ⟨b, k * 4, none⟩ = some (.int .i64 (un l k).op) ∧ w.cell? ⟨b, k * 4 + 1, none⟩ = some (.slice S (un l k).needs.length c) ∧ FactsAt w B S (un l k).needs ∧ w.cell? ⟨b, k * 4 + 2, none⟩ = some (.int .i64 (un l k).var) ∧ w.cell? ⟨b, k * 4 + 3, none⟩ = some (.int .i64 (un l k).val)
section
variable {w w' : World} {lo : Nat} {v v' : Value} {xs : List Value}
theorem FaB.of {S : Option Addr} {l : List (Int × Int)} (h : FaB w lo S l) (hk : ∀ b cur, lo ≤ b → w.heap[b]? = some (.cells cur 48 (0, 0)) → w'.heap[b]? = w.heap[b]?) : FaB w' lo S l := ⟨h.1, fun h0 => by
  obtain ⟨b, cur, e, hl, hb, hc⟩ := h.2 h0
  exact ⟨b, cur, e, hl, (hk b cur hl hb).trans hb, hc⟩⟩
theorem FaB.up {S : Option Addr} {l : List (Int × Int)} (h : FaB w lo S l) (hb : Below w.heap.size w w') : FaB w' lo S l := h.of fun b cur _ e => hb.block b (Array.getElem?_eq_some_iff.1 e).1
theorem FaB.at_ {S : Option Addr} {l : List (Int × Int)} (h : FaB w lo S l) : FactsAt w w.heap.size S l := ⟨by have := h.1; omega, fun h0 => by
  obtain ⟨b, cur, e, _, hb, hc⟩ := h.2 h0
  refine ⟨b, 0, e, (Array.getElem?_eq_some_iff.1 hb).1, fun k hk => ?_⟩
  have h1 := cell_of_row w b (k * 2) cur 48 (0, 0) hb
  have h2 := cell_of_row w b (k * 2 + 1) cur 48 (0, 0) hb
  rw [(hc k hk).1] at h1
  rw [(hc k hk).2] at h2
  exact ⟨by simpa using h1, by simpa using h2⟩⟩
theorem faB_own {B : Nat} {l : List (Int × Int)} (h : w.ownsRow B 48 2 v l.length (fcl l)) (hB : lo ≤ B) (hl : l.length ≤ 1000000) : ∃ S c, v = .slice S l.length c ∧ FaB w lo S l := by
  rcases h.2 with ⟨rfl, h0⟩ | ⟨g, cap, cur, rfl, hb, hg, hnc, hcm, hcs, htk⟩
  · exact ⟨none, 0, by rw [h0], hl, fun hp => absurd hp (by omega)⟩
  · refine ⟨_, cap, rfl, hl, fun _ => ⟨g, cur, rfl, Nat.le_trans hB hb, hg, fun k hk => ?_⟩⟩
    obtain ⟨h1, h2⟩ := fcl_get l k hk
    rw [← htk, List.getElem?_take, if_pos (by omega)] at h1 h2
    exact ⟨by simpa using h1, by simpa using h2⟩
theorem UnIs.of {l : List Un} (h : UnIs w lo xs l) (hk : ∀ b cur, lo ≤ b → w.heap[b]? = some (.cells cur 48 (0, 0)) → w'.heap[b]? = w.heap[b]?) : UnIs w' lo xs l := fun k hlt => by
  obtain ⟨S, c, h1, h2, h3, h4, h5⟩ := h k hlt
  exact ⟨S, c, h1, h2, h3.of hk, h4, h5⟩
theorem UnIs.up {l : List Un} (h : UnIs w lo xs l) (hb : Below w.heap.size w w') : UnIs w' lo xs l := h.of fun b cur _ e => hb.block b (Array.getElem?_eq_some_iff.1 e).1
/-- A block of another kind is written. -/
theorem ne_own {B s n b : Nat} {e T : TypeId} {xs : List Value} {cur : Array Value} (ho : w.ownsRow B e s v n xs) (hb : w.heap[b]? = some (.cells cur T (0, 0))) (hne : T ≠ e) : some b ≠ v.ownBlock := by
  rcases ho.2 with ⟨rfl, _⟩ | ⟨g, cap, cur', rfl, _, hg, _⟩
  · simp [Value.ownBlock]
  · intro he
    have : g = b := by simpa [Value.ownBlock] using he.symm
    subst this
    rw [hb] at hg
    injection hg with hg
    injection hg with _ ht
    exact hne ht
theorem un_left {a b : List Un} {k : Nat} (h : k < a.length) : un (a ++ b) k = un a k := by unfold un; simp [List.getD, List.getElem?_append_left h]
theorem un_last {a : List Un} {u : Un} : un (a ++ [u]) a.length = u := by unfold un; simp [List.getD]
theorem unIs_push {l : List Un} {u : Un} {S : Option Addr} {c : Nat} (h : UnIs w lo xs l) (hl : xs.length = l.length * 4) (hf : FaB w lo S u.needs) : UnIs w lo (xs ++ [.int .i64 u.op, .slice S u.needs.length c, .int .i64 u.var, .int .i64 u.val]) (l ++ [u]) := fun k hk => by
  by_cases e : k < l.length
  · obtain ⟨S', c', h1, h2, h3, h4, h5⟩ := h k e
    rw [un_left e]
    exact ⟨S', c', by rw [List.getElem?_append_left (by omega)]; exact h1, by rw [List.getElem?_append_left (by omega)]; exact h2, h3, by rw [List.getElem?_append_left (by omega)]; exact h4, by rw [List.getElem?_append_left (by omega)]; exact h5⟩
  · have : k = l.length := by simp at hk; omega
    subst this
    rw [un_last]
    refine ⟨S, c, ?_, ?_, hf, ?_, ?_⟩
    · rw [← hl, List.getElem?_append_right (Nat.le_refl _)]; simp
    · rw [← hl, List.getElem?_append_right (by omega)]; simp
    · rw [← hl, List.getElem?_append_right (by omega)]; simp
    · rw [← hl, List.getElem?_append_right (by omega)]; simp
theorem LstB.nil (w : World) (lo : Nat) : LstB w lo (.slice none 0 0) [] := ⟨[], World.ownsRow_nil _ _ _ _, fun k hk => absurd hk (by simp)⟩
theorem LstB.up {l : List Un} (h : LstB w lo v l) (hb : Below w.heap.size w w') : LstB w' lo v l := by
  obtain ⟨xs, h1, h2⟩ := h
  exact ⟨xs, own_below h1 hb, h2.up hb⟩
theorem LstB.done {l : List Un} (h : LstB w lo v l) : ∃ A c, v = .slice A l.length c ∧ UnsAt w w.heap.size A l := by
  obtain ⟨xs, ho, hu⟩ := h
  rcases ho.2 with ⟨rfl, h0⟩ | ⟨g, cap, cur, rfl, hb, hg, hnc, hcm, hcs, htk⟩
  · exact ⟨none, 0, by rw [h0], fun hp => absurd hp (by omega)⟩
  · refine ⟨_, cap, rfl, fun _ => ⟨g, rfl, (Array.getElem?_eq_some_iff.1 hg).1, fun k hk => ?_⟩⟩
    obtain ⟨S, c, h1, h2, h3, h4, h5⟩ := hu k hk
    have hc : ∀ (i : Nat) (u : Value), i < l.length * 4 → xs[i]? = some u → w.cell? ⟨g, i, none⟩ = some u := fun i u hi h => by
      rw [← htk, List.getElem?_take, if_pos hi] at h
      have := cell_of_row w g i cur 86 (0, 0) hg
      rw [show cur[i]? = some u by simpa using h] at this
      simpa using this
    exact ⟨S, c, hc _ _ (by omega) h1, hc _ _ (by omega) h2, h3.at_, hc _ _ (by omega) h4, hc _ _ (by omega) h5⟩
theorem UnsAt.up {A : Option Addr} {l : List Un} (h : UnsAt w w.heap.size A l) (hb : Below w.heap.size w w') : UnsAt w' w'.heap.size A l := fun h0 => by
  obtain ⟨b, e, hlt, hc⟩ := h h0
  refine ⟨b, e, Nat.lt_of_lt_of_le hlt hb.size, fun k hk => ?_⟩
  obtain ⟨S, c, h1, h2, h3, h4, h5⟩ := hc k hk
  exact ⟨S, c, (hb.cell (p := ⟨b, _, none⟩) hlt).trans h1, (hb.cell (p := ⟨b, _, none⟩) hlt).trans h2, h3.up hb, (hb.cell (p := ⟨b, _, none⟩) hlt).trans h4, (hb.cell (p := ⟨b, _, none⟩) hlt).trans h5⟩
end
/-- Where a finder's parts lie. -/
structure LiesF where
  (av ag ac au : Option Addr) (cv cg cc cu : Nat)
/-- A finder. -/
structure FindAt (w : World) (G : Nat) (t : Tsk) (q : LiesF) : Prop where
  lt : G < w.heap.size
  c0 : w.cell? ⟨G, 0, none⟩ = some (.slice q.av t.vars.length q.cv)
  c1 : w.cell? ⟨G, 1, none⟩ = some (.slice q.ag t.goal.length q.cg)
  c2 : w.cell? ⟨G, 2, none⟩ = some (.slice q.ac t.ops.length q.cc)
  c3 : w.cell? ⟨G, 3, none⟩ = some (.slice q.au (us t).length q.cu)
  vars : IntsAt w w.heap.size q.av t.vars
  goal : FactsAt w w.heap.size q.ag t.goal
  costs : IntsAt w w.heap.size q.ac (cosN t t.ops.length)
  list : UnsAt w w.heap.size q.au (us t)
theorem FindAt.up {w w' : World} {G : Nat} {t : Tsk} {q : LiesF} (h : FindAt w G t q) (hb : Below w.heap.size w w') : FindAt w' G t q :=
  ⟨Nat.lt_of_lt_of_le h.lt hb.size, (hb.cell (p := ⟨G, 0, none⟩) h.lt).trans h.c0, (hb.cell (p := ⟨G, 1, none⟩) h.lt).trans h.c1, (hb.cell (p := ⟨G, 2, none⟩) h.lt).trans h.c2, (hb.cell (p := ⟨G, 3, none⟩) h.lt).trans h.c3, h.vars.up hb, h.goal.up hb, h.costs.up hb, h.list.up hb⟩

end Go.Proofs.Ytenmeiplglbafaa

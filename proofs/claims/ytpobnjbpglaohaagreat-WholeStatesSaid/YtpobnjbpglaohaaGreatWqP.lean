/- A breadth-first search over the states of a task: plain. -/
import Derived.Test.YtpobnjbpglaohaaGreatWpN
import Derived.Test.YtpobnjbpglaohaaGreatWgD
import Derived.Test.YtpobnjbpglaohaaGreatTaskR
namespace Go.Proofs.YtpobnjbpglaohaaGreat
set_option linter.unusedSimpArgs false
set_option linter.unusedVariables false
open Go Go.RowKit
set_option linter.unusedVariables false

theorem st_nxtW {t : Tsk} (hr : Right t) {s : List Int} (hs : stB t.vars s = true) {k : Nat} (hk : k < t.ops.length) : stB t.vars (nxt t s k) = true := by
  unfold stB at *
  simp only [decide_eq_true_eq] at *
  have key : ∀ j, j ≤ (opr t.ops k).effs.length → StP t.vars (apE s (opr t.ops k).effs j) := fun j => by
    induction j with
    | zero => intro _; exact hs
    | succ j ih =>
      intro hj
      have h1 := ih (by omega)
      have he := hr.eff k hk j (by omega)
      unfold apE
      split
      · refine ⟨by rw [List.length_set]; exact h1.1, fun v hv => ?_⟩
        rw [List.length_set] at hv
        unfold nth
        rw [List.getD, List.getElem?_set]
        split
        · rename_i e
          rw [if_pos (by rw [h1.1]; omega)]
          subst e
          exact ⟨he.2.2.1, he.2.2.2⟩
        · exact h1.2 v hv
      · exact h1
  exact key _ (Nat.le_refl _)
/-- The operators that are applicable, ascending. -/
def ops1 (t : Tsk) (s : List Int) : List Nat := (List.range t.ops.length).filter fun k => hoB (opr t.ops k).pre s
theorem ops1_mem {t : Tsk} {s : List Int} {k : Nat} : k ∈ ops1 t s ↔ k < t.ops.length ∧ hoB (opr t.ops k).pre s = true := by
  unfold ops1
  rw [List.mem_filter, List.mem_range]
theorem ops1_len (t : Tsk) (s : List Int) : (ops1 t s).length ≤ t.ops.length := by
  unfold ops1
  exact Nat.le_trans (List.length_filter_le _ _) (by simp)
abbrev BS := List (List Int) × List (Nat × Nat × Nat)
def adS (S : List (List Int)) (s : List Int) : List (List Int) := if s ∈ S then S else S ++ [s]
def idS (S : List (List Int)) (s : List Int) : Nat := S.idxOf s
def stO (t : Tsk) (i : Nat) (s : List Int) (X : BS) (k : Nat) : BS := (adS X.1 (nxt t s k), X.2 ++ [(i, k, idS X.1 (nxt t s k))])
def opN (l : List Nat) (j : Nat) : Nat := l.getD j 0
def rnd (t : Tsk) (i : Nat) (s : List Int) (X : BS) (j : Nat) : BS := ((ops1 t s).take j).foldl (stO t i s) X
theorem rnd_zero (t : Tsk) (i : Nat) (s : List Int) (X : BS) : rnd t i s X 0 = X := rfl
theorem rnd_succ (t : Tsk) (i : Nat) (s : List Int) (X : BS) {j : Nat} (hj : j < (ops1 t s).length) : rnd t i s X (j + 1) = stO t i s (rnd t i s X j) (opN (ops1 t s) j) := by
  unfold rnd opN
  rw [List.take_succ_eq_append_getElem hj, List.foldl_append]
  simp [List.getD, hj]
def bfs (t : Tsk) : Nat → BS
  | 0 => ([t.init], [])
  | i + 1 => rnd t i (stI (bfs t i).1 i) (bfs t i) (ops1 t (stI (bfs t i).1 i)).length
/-- The states' list: each once, all proper. -/
structure BOk (t : Tsk) (S : List (List Int)) : Prop where
  nd : S.Nodup
  st : ∀ s ∈ S, stB t.vars s = true
theorem adS_ok {t : Tsk} {S : List (List Int)} {s : List Int} (h : BOk t S) (hs : stB t.vars s = true) : BOk t (adS S s) := by
  unfold adS
  split
  · exact h
  · rename_i hn
    refine ⟨?_, fun x hx => ?_⟩
    · rw [List.nodup_append]
      refine ⟨h.nd, by simp, fun a ha b hb e => ?_⟩
      simp only [List.mem_singleton] at hb
      subst hb; subst e
      exact hn ha
    · rcases List.mem_append.1 hx with hx | hx
      · exact h.st x hx
      · simp only [List.mem_singleton] at hx; subst hx; exact hs
theorem stI_mem {S : List (List Int)} {i : Nat} (h : i < S.length) : stI S i ∈ S := by
  unfold stI
  simp [List.getD, h]
theorem mem_stI {S : List (List Int)} {s : List Int} (h : s ∈ S) : ∃ i, i < S.length ∧ stI S i = s := by
  obtain ⟨i, hi, e⟩ := List.getElem_of_mem h
  exact ⟨i, hi, by unfold stI; simp [List.getD, hi, e]⟩
theorem BOk.once {t : Tsk} {S : List (List Int)} (h : BOk t S) : ∀ i j, i < S.length → j < S.length → stI S i = stI S j → i = j := fun i j hi hj e => by
  unfold stI at e
  simp only [List.getD, List.getElem?_eq_getElem hi, List.getElem?_eq_getElem hj, Option.getD_some] at e
  exact (List.getElem_inj h.nd).1 e
theorem idS_at {t : Tsk} {S : List (List Int)} (h : BOk t S) {i : Nat} (hi : i < S.length) {s : List Int} (e : stI S i = s) : idS S s = i ∧ adS S s = S := by
  have hm : s ∈ S := e ▸ stI_mem hi
  have h1 : idS S s < S.length := List.idxOf_lt_length_of_mem hm
  refine ⟨h.once _ _ h1 hi ?_, by unfold adS; rw [if_pos hm]⟩
  rw [e]
  unfold stI
  rw [List.getD, List.getElem?_eq_getElem h1]
  exact List.getElem_idxOf h1
theorem idS_new {S : List (List Int)} {s : List Int} (h : ∀ i, i < S.length → stI S i ≠ s) : idS S s = S.length ∧ adS S s = S ++ [s] := by
  have hm : s ∉ S := fun hm => by
    obtain ⟨i, hi, e⟩ := mem_stI hm
    exact h i hi e
  exact ⟨List.idxOf_eq_length hm, by unfold adS; rw [if_neg hm]⟩
theorem adS_pre {S : List (List Int)} {s : List Int} {i : Nat} (h : i < S.length) : stI (adS S s) i = stI S i ∧ i < (adS S s).length := by
  unfold adS
  split
  · exact ⟨rfl, h⟩
  · exact ⟨stI_app h, by rw [List.length_append]; omega⟩
theorem idS_lt (S : List (List Int)) (s : List Int) : idS S s < (adS S s).length := by
  unfold adS idS
  split
  · rename_i hm; exact List.idxOf_lt_length_of_mem hm
  · rw [List.length_append]; have := List.idxOf_le_length (l := S) (a := s); simp; omega
theorem pigeonW : ∀ (k : Nat) (f : Nat → Nat), (∀ i, i ≤ k → f i < k) → ∃ i j, i < j ∧ j ≤ k ∧ f i = f j
  | 0, f, h => absurd (h 0 (Nat.le_refl _)) (by omega)
  | k + 1, f, h => by
    by_cases hh : ∃ i, i < k + 1 ∧ f i = f (k + 1)
    · obtain ⟨i, hi, e⟩ := hh
      exact ⟨i, k + 1, hi, Nat.le_refl _, e⟩
    · -- the value of the last one is put in the place of the greatest
      have hne : ∀ i, i < k + 1 → f i ≠ f (k + 1) := fun i hi e => hh ⟨i, hi, e⟩
      obtain ⟨i, j, hij, hj, e⟩ := pigeonW k (fun i => if f i = k then f (k + 1) else f i) fun i hi => by
        have h1 := h i (by omega)
        have h2 := h (k + 1) (Nat.le_refl _)
        have h3 := hne i (by omega)
        split <;> omega
      refine ⟨i, j, hij, by omega, ?_⟩
      have h1 := hne i (by omega)
      have h2 := hne j (by omega)
      split at e <;> split at e <;> omega
theorem BOk.len {t : Tsk} (hr : Right t) (hm : pr t.vars t.vars.length ≤ 512) {S : List (List Int)} (h : BOk t S) : S.length ≤ 512 := by
  have hl := sts_len hr
  rcases Nat.lt_or_ge 512 S.length with hlt | hge
  · obtain ⟨i, j, hij, hj, e⟩ := pigeonW 512 (fun i => num t (stI S i)) (fun i hi => by
      have := (num_eq hr (h.st _ (stI_mem (show i < S.length by omega)))).2
      show num t (stI S i) < 512
      omega)
    have hi' : i < S.length := by omega
    have hj' : j < S.length := by omega
    have e : num t (stI S i) = num t (stI S j) := e
    have := h.once i j hi' hj' (by rw [← sts_num hr (h.st _ (stI_mem hi')), ← sts_num hr (h.st _ (stI_mem hj')), e])
    omega
  · exact hge
/-- What a state of the search is. -/
structure BInv (t : Tsk) (X : BS) : Prop where
  ok : BOk t X.1
  ed : ∀ e ∈ X.2, e.1 < X.1.length ∧ e.2.1 < t.ops.length ∧ e.2.2 < X.1.length
theorem stO_inv {t : Tsk} (hr : Right t) {i k : Nat} {X : BS} (h : BInv t X) {s : List Int} (hi : i < X.1.length) (hs : stB t.vars s = true) (hk : k < t.ops.length) : BInv t (stO t i s X k) ∧ X.1.length ≤ (stO t i s X k).1.length ∧ ∀ j, j < X.1.length → stI (stO t i s X k).1 j = stI X.1 j := by
  have hle : X.1.length ≤ (adS X.1 (nxt t s k)).length := by
    unfold adS; split
    · exact Nat.le_refl _
    · rw [List.length_append]; omega
  refine ⟨⟨adS_ok h.ok (st_nxtW hr hs hk), fun e he => ?_⟩, hle, fun j hj => (adS_pre hj).1⟩
  rcases List.mem_append.1 he with he | he
  · obtain ⟨a, b, c⟩ := h.ed e he
    exact ⟨Nat.lt_of_lt_of_le a hle, b, Nat.lt_of_lt_of_le c hle⟩
  · simp only [List.mem_singleton] at he
    subst he
    exact ⟨Nat.lt_of_lt_of_le hi hle, hk, idS_lt _ _⟩
theorem opN_lt {t : Tsk} {s : List Int} {j : Nat} (h : j < (ops1 t s).length) : opN (ops1 t s) j < t.ops.length ∧ hoB (opr t.ops (opN (ops1 t s) j)).pre s = true := by
  have : opN (ops1 t s) j ∈ ops1 t s := by unfold opN; simp [List.getD, h]
  exact ops1_mem.1 this
theorem rnd_inv {t : Tsk} (hr : Right t) {i : Nat} {X : BS} (h : BInv t X) {s : List Int} (hi : i < X.1.length) (hs : stB t.vars s = true) : ∀ j, j ≤ (ops1 t s).length → BInv t (rnd t i s X j) ∧ X.1.length ≤ (rnd t i s X j).1.length ∧ ∀ a, a < X.1.length → stI (rnd t i s X j).1 a = stI X.1 a
  | 0, _ => ⟨h, Nat.le_refl _, fun _ _ => rfl⟩
  | j + 1, hj => by
    obtain ⟨h1, h2, h3⟩ := rnd_inv hr h hi hs j (by omega)
    rw [rnd_succ t i s X (by omega)]
    obtain ⟨g1, g2, g3⟩ := stO_inv hr h1 (Nat.lt_of_lt_of_le hi h2) hs (opN_lt (show j < (ops1 t s).length by omega)).1
    exact ⟨g1, Nat.le_trans h2 g2, fun a ha => (g3 a (Nat.lt_of_lt_of_le ha h2)).trans (h3 a ha)⟩
theorem bfs_inv {t : Tsk} (hr : Right t) : ∀ i, (∀ k, k < i → k < (bfs t k).1.length) → BInv t (bfs t i)
  | 0, _ => ⟨⟨by simp [bfs], fun s hs => by simp only [bfs, List.mem_singleton] at hs; subst hs; exact hr.init⟩, fun e he => by simp [bfs] at he⟩
  | i + 1, h => by
    have h1 := bfs_inv hr i (fun k hk => h k (by omega))
    have hi := h i (by omega)
    exact (rnd_inv hr h1 hi (h1.ok.st _ (stI_mem hi)) _ (Nat.le_refl _)).1
theorem rnd_elen (t : Tsk) (i : Nat) (s : List Int) (X : BS) : ∀ j, j ≤ (ops1 t s).length → (rnd t i s X j).2.length = X.2.length + j
  | 0, _ => rfl
  | j + 1, hj => by
    rw [rnd_succ t i s X (by omega)]
    unfold stO
    rw [List.length_append, rnd_elen t i s X j (by omega)]
    rfl
theorem bfs_elen (t : Tsk) : ∀ i, (bfs t i).2.length ≤ i * t.ops.length
  | 0 => by simp [bfs]
  | i + 1 => by
    rw [bfs, rnd_elen _ _ _ _ _ (Nat.le_refl _), Nat.succ_mul]
    have := bfs_elen t i
    have := ops1_len t (stI (bfs t i).1 i)
    omega
/-- Where the search ends. -/
def BEnd (t : Tsk) (i : Nat) : Prop := i = (bfs t i).1.length ∧ ∀ k, k < i → k < (bfs t k).1.length
theorem bEnd_uni {t : Tsk} {i j : Nat} (hi : BEnd t i) (hj : BEnd t j) : i = j := by
  rcases Nat.lt_trichotomy i j with h | h | h
  · have := hj.2 i h; have := hi.1; omega
  · exact h
  · have := hi.2 j h; have := hj.1; omega
end Go.Proofs.YtpobnjbpglaohaaGreat

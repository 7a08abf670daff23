/- simplex: a program with one row more: its lists in memory, its result. -/
import Derived.Test.YtaomaopbdilmnaaSxK
import Derived.Test.YtaomaopbdilmnaaLpU
import Derived.Test.YtaomaopbdilmnaaLpL
import Derived.Test.YtaomaopbdilmnaaOpenG
namespace Go.Proofs.Ytaomaopbdilmnaa
set_option linter.unusedSimpArgs false
set_option linter.unusedVariables false
open Go Go.RowKit
set_option linter.unusedVariables false

theorem facts_src {w : World} {B : Nat} {A : Option Addr} {l : List (Int × Int)} {c : Nat} (h : FactsAt w B A l) (hA : A = none → c = 0) : SrcAt w A l.length c 2 (fc l) where
  none := fun e => by
    refine ⟨?_, hA e⟩
    rcases Nat.eq_zero_or_pos l.length with h0 | h0
    · exact h0
    · obtain ⟨b, off, e2, _⟩ := h.at_ h0
      rw [e] at e2; cases e2
  len := fc_len l
  cells := fun ad e => by subst e; exact fracs_cells h
  one := fc_one
/-- The rows' slices as a list of values. -/
structure Sls (w : World) (R : List (List (Int × Int))) (xs : List Value) : Prop where
  len : xs.length = R.length
  at_ : ∀ i, i < R.length → ∃ S cS, xs[i]? = some (.slice S (mr R i).length cS) ∧ (S = none → cS = 0) ∧ FactsAt w w.heap.size S (mr R i)
theorem Sls.up {w w' : World} {R : List (List (Int × Int))} {xs : List Value} (h : Sls w R xs) (hb : Below w.heap.size w w') : Sls w' R xs := ⟨h.len, fun i hi => by
  obtain ⟨S, cS, h1, h2, h3⟩ := h.at_ i hi
  exact ⟨S, cS, h1, h2, factsAt_up h3 hb⟩⟩
theorem mx_list {w : World} {A : Option Addr} {R : List (List (Int × Int))} {c : Nat} (h : MxAt w A R) (hA : A = none → c = 0) : ∃ xs, Sls w R xs ∧ SrcAt w A R.length c 1 xs := by
  rcases Nat.eq_zero_or_pos R.length with h0 | h0
  · refine ⟨[], ⟨by rw [h0]; rfl, fun i hi => by omega⟩, ⟨fun e => ⟨h0, hA e⟩, by rw [h0]; rfl, fun ad e j u hj => by simp at hj, fun u hu => by cases hu⟩⟩
  · obtain ⟨b, off, rfl, hlt, hc⟩ := h.2 h0
    obtain ⟨xs, hl, hx⟩ := list_of (Value.bool false) R.length (fun i x => ∃ S cS, x = .slice S (mr R i).length cS ∧ w.cell? ⟨b, off + i, none⟩ = some x ∧ (S = none → cS = 0) ∧ FactsAt w w.heap.size S (mr R i)) fun i hi => by
      obtain ⟨S, cS, h1, h2, h3⟩ := hc i hi
      exact ⟨_, S, cS, rfl, h1, h2, h3⟩
    refine ⟨xs, ⟨hl, fun i hi => ?_⟩, ⟨(fun e => nomatch e), by rw [hl]; omega, fun ad e j u hj => ?_, fun u hu => ?_⟩⟩
    · obtain ⟨S, cS, h1, _, h3, h4⟩ := hx i hi
      have hi' : i < xs.length := by omega
      refine ⟨S, cS, ?_, h3, h4⟩
      rw [List.getElem?_eq_getElem hi', ← h1]
      simp [List.getD, hi']
    · cases e
      obtain ⟨hj', rfl⟩ := List.getElem?_eq_some_iff.1 hj
      obtain ⟨S, cS, h1, h2, _⟩ := hx j (by omega)
      have h3 : xs.getD j (Value.bool false) = xs[j] := by simp [List.getD, hj']
      rw [h3] at h2
      unfold Addr.add
      split
      · rename_i e0; subst e0; exact h2
      · exact h2
    · obtain ⟨j, hj, rfl⟩ := List.getElem_of_mem hu
      obtain ⟨S, cS, h1, _⟩ := hx j (by omega)
      have h3 : xs.getD j (Value.bool false) = xs[j] := by simp [List.getD, hj]
      rw [h3] at h1
      rw [h1]; rfl
theorem mr_lt {R : List (List (Int × Int))} {o : List (Int × Int)} {i : Nat} (h : i < R.length) : mr (R ++ [o]) i = mr R i := by unfold mr; simp [List.getD, List.getElem?_append_left h]
theorem mr_eq {R : List (List (Int × Int))} {o : List (Int × Int)} : mr (R ++ [o]) R.length = o := by unfold mr; simp [List.getD]
theorem Sls.push {w : World} {R : List (List (Int × Int))} {xs : List Value} {o : List (Int × Int)} {S : Option Addr} {cS : Nat} (h : Sls w R xs) (hS : S = none → cS = 0) (ho : FactsAt w w.heap.size S o) : Sls w (R ++ [o]) (xs ++ [.slice S o.length cS]) := by
  refine ⟨by rw [List.length_append, List.length_append, h.len]; rfl, fun i hi => ?_⟩
  rw [List.length_append] at hi
  have hi2 : i < R.length + 1 := hi
  by_cases e : i < R.length
  · obtain ⟨S', c', h1, h2, h3⟩ := h.at_ i e
    rw [mr_lt e]
    exact ⟨S', c', by rw [List.getElem?_append_left (by rw [h.len]; exact e)]; exact h1, h2, h3⟩
  · obtain rfl : i = R.length := by omega
    rw [mr_eq]
    exact ⟨S, cS, by rw [List.getElem?_append_right (by rw [h.len]; exact Nat.le_refl _), h.len, Nat.sub_self]; rfl, hS, ho⟩
theorem mx_of_own {w : World} {B : Nat} {v : Value} {R : List (List (Int × Int))} {xs : List Value} (h : w.ownsRow B 22 1 v R.length xs) (hx : Sls w R xs) (hl : R.length ≤ 1000) : ∃ A c, v = .slice A R.length c ∧ MxAt w A R := by
  rcases h.2 with ⟨rfl, h0⟩ | ⟨b, cap, cur, rfl, hb, hg, hh⟩
  · exact ⟨none, 0, by rw [h0], by omega, fun hp => by omega⟩
  · refine ⟨_, cap, rfl, by omega, fun _ => ⟨b, 0, rfl, (Array.getElem?_eq_some_iff.1 hg).1, fun i hi => ?_⟩⟩
    obtain ⟨S, cS, h1, h2, h3⟩ := hx.at_ i hi
    exact ⟨S, cS, by rw [Nat.zero_add]; exact (World.ownsRow.cellAt h i (by omega)).trans h1, h2, h3⟩

section
variable {c b o : List (Int × Int)} {R : List (List (Int × Int))} {p q : Int}
theorem chk_mk (h : c.length ≤ 24 ∧ R.length ≤ 24 ∧ R.length = b.length ∧ (∀ i, i < R.length → (mr R i).length = c.length) ∧ prL c = true ∧ prL b = true ∧ (∀ i, i < R.length → prL (mr R i) = true) ∧ ∀ i, i < b.length → 0 ≤ fv b i) : chk37 c R b = 0 := by
  obtain ⟨h1, h2, h3, h4, h5, h6, h7, h8⟩ := h
  unfold chk37
  rw [if_neg (by omega), if_neg (by omega), anyB_false.2 fun i hi => by simp [h4 i hi], h5, h6, anyB_false.2 fun i hi => by rw [h7 i hi]; rfl, anyB_false.2 fun i hi => decide_eq_false (by have := h8 i hi; omega)]
  rfl
theorem fv_lt {i : Nat} (h : i < b.length) : fv (b ++ [(p, q)]) i = fv b i ∧ fx (b ++ [(p, q)]) i = fx b i := by unfold fv fx; simp [List.getD, List.getElem?_append_left h]
theorem fv_eq : fv (b ++ [(p, q)]) b.length = p ∧ fx (b ++ [(p, q)]) b.length = q := by unfold fv fx; simp [List.getD]
theorem prL_push (h : prL b = true) (h1 : prB p q = true) : prL (b ++ [(p, q)]) = true := prL_iff.2 fun j hj => by
  rw [List.length_append] at hj
  have hj2 : j < b.length + 1 := hj
  by_cases e : j < b.length
  · rw [(fv_lt e).1, (fv_lt e).2]; exact prL_iff.1 h j e
  · obtain rfl : j = b.length := by omega
    rw [fv_eq.1, fv_eq.2]; exact h1
theorem chk_more (h : chk37 c R b = 0) (hm : R.length ≤ 23) (ho : o.length = c.length) (hp : prL o = true) (hb : prB p q = true) (h0 : 0 ≤ p) : chk37 c (R ++ [o]) (b ++ [(p, q)]) = 0 := by
  obtain ⟨h1, h2, h3, h4, h5, h6, h7, h8⟩ := chk_zero h
  refine chk_mk ⟨h1, by rw [List.length_append]; show R.length + 1 ≤ 24; omega, by rw [List.length_append, List.length_append, h3]; rfl, fun i hi => ?_, h5, prL_push h6 hb, fun i hi => ?_, fun i hi => ?_⟩
  · rw [List.length_append] at hi
    have hi2 : i < R.length + 1 := hi
    by_cases e : i < R.length
    · rw [mr_lt e]; exact h4 i e
    · obtain rfl : i = R.length := by omega
      rw [mr_eq]; exact ho
  · rw [List.length_append] at hi
    have hi2 : i < R.length + 1 := hi
    by_cases e : i < R.length
    · rw [mr_lt e]; exact h7 i e
    · obtain rfl : i = R.length := by omega
      rw [mr_eq]; exact hp
  · rw [List.length_append] at hi
    have hi2 : i < b.length + 1 := hi
    by_cases e : i < b.length
    · rw [(fv_lt e).1]; exact h8 i e
    · obtain rfl : i = b.length := by omega
      rw [fv_eq.1]; exact h0
theorem more_of (hl : R.length = b.length) : More c.length R.length (fr37 R) (rl b) (fr37 (R ++ [o])) (rl (b ++ [(p, q)])) (rl o) (Rat.divInt p q) where
  a := fun i hi j hj => by unfold fr37; rw [mr_lt hi]
  b := fun i hi => by unfold rl; rw [(fv_lt (by omega)).1, (fv_lt (by omega)).2]
  a1 := fun j hj => by unfold fr37; rw [mr_eq]
  b1 := by unfold rl; rw [hl, fv_eq.1, fv_eq.2]
/-- The value of a program, or its error. -/
def ValR (n m : Nat) (A : Nat → Nat → Rat) (b c : Nat → Rat) (p q cd : Int) : Prop := cd = 5 ∨ (cd = 0 ∧ ∃ v : Rat, Rep v ∧ p = v.num ∧ q = (v.den : Int) ∧ OptV n m A b c v)
/-- What Solve returns where the program has an optimum, or is too large. -/
theorem val_res {e : Ending} {w' : World} (h : SolRet c R b e w') (h0 : chk37 c R b = 0) (hu : ¬ Unb c.length R.length (fr37 R) (rl b) (rl c)) :
    ∃ p q cd x y, e = .returned (.tuple #[.agg #[.int .i64 p, .int .i64 q], x, y, errV cd]) ∧ ValR c.length R.length (fr37 R) (rl b) (rl c) p q cd := by
  have hb : ∀ i, i < R.length → 0 ≤ rl b i := fun i hi => by
    obtain ⟨_, _, h3, _, _, h6, _, h8⟩ := chk_zero h0
    have := (rl_num (prL_iff.1 h6 i (by omega))).1
    exact Rat.num_nonneg.1 (by rw [this]; exact h8 i (by omega))
  rcases h with ⟨hne, _⟩ | ⟨_, ⟨cd, hf, he⟩ | ⟨T, hf, bx, bY, he, _, _⟩⟩
  · exact absurd h0 hne
  · have h5 : cd = 5 := by
      rcases fin_cases hf with ⟨T, h⟩ | h | h
      · cases h
      · injection h with h
        subst h
        exact absurd (fin_unb (A := fr37 R) (b := rl b) (c := rl c) hb hf) hu
      · injection h
    subst h5
    exact ⟨0, 0, 5, _, _, he, .inl rfl⟩
  · exact ⟨_, _, 0, _, _, he, .inr ⟨rfl, T.z, (fin_sol h0 hf).sml.z, rfl, rfl, fin_opt hb hf⟩⟩
end
def onL (n : Nat) : List (Int × Int) := List.replicate n (1, 1)
theorem onL_len (n : Nat) : (onL n).length = n := by unfold onL; simp
theorem onL_succ (n : Nat) : onL (n + 1) = onL n ++ [(1, 1)] := by unfold onL; rw [List.replicate_succ']
theorem onL_at {n j : Nat} (h : j < n) : fv (onL n) j = 1 ∧ fx (onL n) j = 1 := by unfold onL fv fx; simp [List.getD, h]
theorem onL_pr (n : Nat) : prL (onL n) = true := prL_iff.2 fun j hj => by
  rw [onL_len] at hj
  rw [(onL_at hj).1, (onL_at hj).2]; decide
theorem onL_rl {n j : Nat} (h : j < n) : rl (onL n) j = 1 := by unfold rl; rw [(onL_at h).1, (onL_at h).2]; rfl
theorem More.congr {n m : Nat} {A A' : Nat → Nat → Rat} {b b' r r' : Nat → Rat} {β β' : Rat} (h : More n m A b A' b' r β) (hr : ∀ j, j < n → r j = r' j) (hβ : β = β') : More n m A b A' b' r' β' := ⟨h.a, h.b, fun j hj => (h.a1 j hj).trans (hr j hj), h.b1.trans hβ⟩
/-- The program with a bound on the sum of the variables. -/
theorem bnd_res {c b : List (Int × Int)} {R : List (List (Int × Int))} {β : Nat} {e : Ending} {w' : World} (h0 : chk37 c R b = 0) (hm : R.length ≤ 23) (hβ : β ≤ 1000) (h : SolRet c (R ++ [onL c.length]) (b ++ [((β : Int), 1)]) e w') :
    ∃ p q cd x y, e = .returned (.tuple #[.agg #[.int .i64 p, .int .i64 q], x, y, errV cd]) ∧ ValR c.length (R.length + 1) (fr37 (R ++ [onL c.length])) (rl (b ++ [((β : Int), 1)])) (rl c) p q cd := by
  have hl : R.length = b.length := (chk_zero h0).2.2.1
  have hr := rep_pr (rep_nat (k := β) hβ)
  rw [Rat.num_natCast, Rat.den_natCast] at hr
  have hc := chk_more (o := onL c.length) h0 hm (onL_len _) (onL_pr _) hr (by omega)
  have e1 : (R ++ [onL c.length]).length = R.length + 1 := by rw [List.length_append]; rfl
  have hM := (more_of (c := c) (o := onL c.length) (p := (β : Int)) (q := 1) hl).congr (fun j hj => onL_rl hj) rfl
  have := val_res h hc (by rw [e1]; exact more_unb hM)
  rw [e1] at this
  exact this
theorem bnd_grow {c b : List (Int × Int)} {R : List (List (Int × Int))} {β : Nat} {p q p' q' : Int} (h0 : chk37 c R b = 0) (hu : Unb c.length R.length (fr37 R) (rl b) (rl c)) (h1 : ValR c.length (R.length + 1) (fr37 (R ++ [onL c.length])) (rl (b ++ [((β : Int), 1)])) (rl c) p q 0) (h2 : ValR c.length (R.length + 1) (fr37 (R ++ [onL c.length])) (rl (b ++ [(((β + 1 : Nat) : Int), 1)])) (rl c) p' q' 0) : cmpF p q p' q' < 0 := by
  have hl : R.length = b.length := (chk_zero h0).2.2.1
  rcases h1 with h | ⟨_, v1, r1, rfl, rfl, o1⟩
  · exact absurd h (by decide)
  rcases h2 with h | ⟨_, v2, r2, rfl, rfl, o2⟩
  · exact absurd h (by decide)
  have e : ∀ k : Nat, Rat.divInt (k : Int) 1 = (k : Rat) := fun k => by
    have := num_divInt (k : Rat)
    rwa [Rat.num_natCast, Rat.den_natCast] at this
  have M1 := (more_of (c := c) (o := onL c.length) (p := (β : Int)) (q := 1) hl).congr (fun j hj => onL_rl hj) (e β)
  have M2 := (more_of (c := c) (o := onL c.length) (p := ((β + 1 : Nat) : Int)) (q := 1) hl).congr (fun j hj => onL_rl hj) ((e (β + 1)).trans (Rat.natCast_add β 1))
  have h := more_grow M1 M2 hu o1 o2
  rw [cmp_rat r1 r2, if_pos h]
  decide

end Go.Proofs.Ytaomaopbdilmnaa

/- Texts laid together: TqG, TqI. -/
import Derived.Test.YtbcbmpnikgeoeaaDoorTqF
import Derived.Test.YtbcbmpnikgeoeaaDoorMpC
import Derived.Test.YtbcbmpnikgeoeaaDoorMpE
namespace Go.Proofs.YtbcbmpnikgeoeaaDoor
set_option linter.unusedSimpArgs false
set_option linter.unusedVariables false
section
open Go Go.RowKit
set_option linter.unusedVariables false

theorem lineR_cases (word : List UInt8) (ls : List (List UInt8)) :
    (lineR word ls = ([], ls, true) ∧ (ls = [] ∨ ∃ l r, ls = l :: r ∧ lineW word l = none)) ∨ ∃ l r ws, ls = l :: r ∧ lineW word l = some ws ∧ lineR word ls = (ws, r, false) := by
  cases ls with
  | nil => exact .inl ⟨rfl, .inl rfl⟩
  | cons l r =>
    by_cases h : isW word l = true
    · refine .inr ⟨l, r, (pcs 32 l).tail, rfl, by unfold lineW; rw [if_pos h], ?_⟩
      show (if isW word l = true then _ else _) = _
      rw [if_pos h]
    · refine .inl ⟨?_, .inr ⟨l, r, rfl, by unfold lineW; rw [if_neg h]⟩⟩
      show (if isW word l = true then _ else _) = _
      rw [if_neg h]
theorem linesW_short1 : linesW [] = none := rfl
theorem linesW_short2 (v : List UInt8) : linesW [v] = none := rfl
theorem linesW_short3 (v i : List UInt8) : linesW [v, i] = none := rfl
theorem linesW_no1 (v : List UInt8) (r : List (List UInt8)) (h : (lineW wVars v).bind numsW = none) : linesW (v :: r) = none := by
  match r with
  | [] => rfl
  | [_] => rfl
  | i :: g :: r => rw [linesW_def, h]
theorem linesW_no2 (v i : List UInt8) (r : List (List UInt8)) (h : (lineW wInit i).bind numsW = none) : linesW (v :: i :: r) = none := by
  match r with
  | [] => rfl
  | g :: r => rw [linesW_def, h]; cases (lineW wVars v).bind numsW <;> rfl
theorem linesW_no3 (v i g : List UInt8) (r : List (List UInt8)) (h : (lineW wGoal g).bind facsW = none) : linesW (v :: i :: g :: r) = none := by
  rw [linesW_def, h]; cases (lineW wVars v).bind numsW <;> cases (lineW wInit i).bind numsW <;> rfl
theorem task_head {b0 : Bool} {ls ws1 ls1 ws2 ls2 ws3 ls3 : List (List UInt8)} {f1 f2 f3 : Bool} {xs1 xs2 : List Int} {xs3 : List (Int × Int)}
    (h1 : lineR wVars ls = (ws1, ls1, f1)) (h2 : lineR wInit ls1 = (ws2, ls2, f2)) (h3 : lineR wGoal ls2 = (ws3, ls3, f3))
    (k1 : ∀ f, numsW ws1 = some f → xs1 = f) (k2 : ∀ f, numsW ws2 = some f → xs2 = f) (k3 : ∀ f, facsW ws3 = some f → xs3 = f) :
    ((((((b0 || f1) || (numsW ws1).isNone) || f2) || (numsW ws2).isNone) || f3) || (facsW ws3).isNone) = true → b0 = true ∨ linesW ls = none := by
  intro hb
  by_cases hb0 : b0 = true
  · exact .inl hb0
  · refine .inr ?_
    rcases lineR_cases wVars ls with ⟨e1, c1⟩ | ⟨v, r1, w1, rfl, c1, e1⟩
    · rcases c1 with rfl | ⟨v, r, rfl, c1⟩
      · rfl
      · exact linesW_no1 v r (by rw [c1]; rfl)
    rw [h1] at e1
    cases e1
    cases n1 : numsW ws1 with
    | none => exact linesW_no1 v ls1 (by rw [c1]; exact n1)
    | some a =>
    rcases lineR_cases wInit ls1 with ⟨e2, c2⟩ | ⟨i, r2, w2, rfl, c2, e2⟩
    · rcases c2 with rfl | ⟨i, r, rfl, c2⟩
      · rfl
      · exact linesW_no2 v i r (by rw [c2]; rfl)
    rw [h2] at e2
    cases e2
    cases n2 : numsW ws2 with
    | none => exact linesW_no2 v i ls2 (by rw [c2]; exact n2)
    | some a2 =>
    rcases lineR_cases wGoal ls2 with ⟨e3, c3⟩ | ⟨g, r3, w3, rfl, c3, e3⟩
    · rcases c3 with rfl | ⟨g, r, rfl, c3⟩
      · rfl
      · exact linesW_no3 v i g r (by rw [c3]; rfl)
    rw [h3] at e3
    cases e3
    cases n3 : facsW ws3 with
    | none => exact linesW_no3 v i g ls3 (by rw [c3]; exact n3)
    | some a3 =>
    rw [n1, n2, n3] at hb
    cases b0 <;> simp at hb hb0
theorem task_head2 {b0 : Bool} {ls ws1 ls1 ws2 ls2 ws3 ls3 : List (List UInt8)} {f1 f2 f3 : Bool} {xs1 xs2 : List Int} {xs3 : List (Int × Int)}
    (h1 : lineR wVars ls = (ws1, ls1, f1)) (h2 : lineR wInit ls1 = (ws2, ls2, f2)) (h3 : lineR wGoal ls2 = (ws3, ls3, f3))
    (k1 : ∀ f, numsW ws1 = some f → xs1 = f) (k2 : ∀ f, numsW ws2 = some f → xs2 = f) (k3 : ∀ f, facsW ws3 = some f → xs3 = f) :
    ((((((b0 || f1) || (numsW ws1).isNone) || f2) || (numsW ws2).isNone) || f3) || (facsW ws3).isNone) = false → b0 = false ∧ linesW ls = (opsF ls3).map fun d => ⟨xs1, xs2, xs3, d⟩ := by
  intro hb
  simp only [Bool.or_eq_false_iff] at hb
  obtain ⟨⟨⟨⟨⟨⟨hb0, hf1⟩, hn1⟩, hf2⟩, hn2⟩, hf3⟩, hn3⟩ := hb
  refine ⟨hb0, ?_⟩
  subst hf1 hf2 hf3
  rcases lineR_cases wVars ls with ⟨e1, c1⟩ | ⟨v, r1, w1, rfl, c1, e1⟩
  · rw [h1] at e1; cases e1
  rw [h1] at e1
  cases e1
  rcases lineR_cases wInit ls1 with ⟨e2, c2⟩ | ⟨i, r2, w2, rfl, c2, e2⟩
  · rw [h2] at e2; cases e2
  rw [h2] at e2
  cases e2
  rcases lineR_cases wGoal ls2 with ⟨e3, c3⟩ | ⟨g, r3, w3, rfl, c3, e3⟩
  · rw [h3] at e3; cases e3
  rw [h3] at e3
  cases e3
  cases n1 : numsW ws1 with
  | none => rw [n1] at hn1; cases hn1
  | some a1 =>
  cases n2 : numsW ws2 with
  | none => rw [n2] at hn2; cases hn2
  | some a2 =>
  cases n3 : facsW ws3 with
  | none => rw [n3] at hn3; cases hn3
  | some a3 =>
  have q1 := k1 a1 n1
  have q2 := k2 a2 n2
  have q3 := k3 a3 n3
  subst q1 q2 q3
  have m1 : (lineW wVars v).bind numsW = some xs1 := by rw [c1]; exact n1
  have m2 : (lineW wInit i).bind numsW = some xs2 := by rw [c2]; exact n2
  have m3 : (lineW wGoal g).bind facsW = some xs3 := by rw [c3]; exact n3
  rw [linesW_def, m1, m2, m3]
  cases opsF ls3 <;> rfl
/-- The code and the task that Parse answers. -/
def noT : Tsk := ⟨[], [], [], []⟩
def parC (s : List UInt8) : Int := if 65536 < s.length then 5 else match taskW s with | none => 2 | some t => chkC t
def parT (s : List UInt8) : Tsk := if parC s = 0 then (taskW s).getD noT else noT
theorem parC_large {s : List UInt8} (h : 65536 < s.length) : parC s = 5 ∧ parT s = noT := by
  have h1 : parC s = 5 := if_pos h
  exact ⟨h1, by unfold parT; rw [h1]; rfl⟩
theorem parC_none {s : List UInt8} (h : ¬ 65536 < s.length) (h2 : taskW s = none) : parC s = 2 ∧ parT s = noT := by
  have h1 : parC s = 2 := by unfold parC; rw [if_neg h, h2]
  exact ⟨h1, by unfold parT; rw [h1]; rfl⟩
theorem parC_some {s : List UInt8} {t : Tsk} (h : ¬ 65536 < s.length) (h2 : taskW s = some t) : parC s = chkC t ∧ parT s = if chkC t = 0 then t else noT := by
  have h1 : parC s = chkC t := by unfold parC; rw [if_neg h, h2]
  refine ⟨h1, ?_⟩
  unfold parT
  rw [h1, h2]
  rfl
theorem noT_at (w : World) (B : Nat) : TaskAt w B noT ⟨none, none, none, none, 0, 0, 0, 0⟩ :=
  ⟨⟨by simp [noT], fun h => absurd h (by simp [noT])⟩, ⟨by simp [noT], fun h => absurd h (by simp [noT])⟩, ⟨by simp [noT], fun h => absurd h (by simp [noT])⟩, ⟨by simp [noT], fun h => absurd h (by simp [noT])⟩⟩
end

section
open Go Go.RowKit
open Go.Lib (itoa)
set_option linter.unusedVariables false

theorem fac_mem {f : List (Int × Int)} {x : Int × Int} (h : x ∈ f) : ∃ k, k < f.length ∧ x = (fv f k, fx f k) := by
  obtain ⟨k, hk, rfl⟩ := List.mem_iff_getElem.1 h
  exact ⟨k, hk, by unfold fv fx; simp [List.getD, List.getElem?_eq_getElem hk]⟩
theorem nth_mem {l : List Int} {n : Int} (h : n ∈ l) : ∃ k, k < l.length ∧ n = nth l k := by
  obtain ⟨k, hk, rfl⟩ := List.mem_iff_getElem.1 h
  exact ⟨k, hk, by unfold nth; simp [List.getD, List.getElem?_eq_getElem hk]⟩
theorem fac_small {vars : List Int} {f : List (Int × Int)} (h : faB vars f = true) (hv : vars.length ≤ 64) (hd : ∀ k, k < vars.length → 1 ≤ nth vars k ∧ nth vars k ≤ 64) : ∀ x ∈ f, Small x.1 ∧ Small x.2 := by
  intro x hx
  obtain ⟨k, hk, rfl⟩ := fac_mem hx
  obtain ⟨h1, h2, h3, h4, -⟩ := (of_decide_eq_true h : FaP vars f) k hk
  have := hd (fv f k).toNat (by omega)
  exact ⟨⟨h1, by show fv f k < 10000000; omega⟩, ⟨h3, by show fx f k < 10000000; omega⟩⟩
theorem tskS_of {t : Tsk} (h : chkC t = 0) : TskS t := by
  have hr := right_of h
  refine ⟨fun n hn => ?_, fun n hn => ?_, fac_small hr.goal hr.nv hr.dom, fun o ho => ?_⟩
  · obtain ⟨k, hk, rfl⟩ := nth_mem hn
    have := hr.dom k hk
    exact ⟨by omega, by omega⟩
  · obtain ⟨k, hk, rfl⟩ := nth_mem hn
    have h1 := (of_decide_eq_true hr.init : StP t.vars t.init)
    have h2 := h1.2 k hk
    have := hr.dom k (by have := h1.1; omega)
    exact ⟨by omega, by omega⟩
  · obtain ⟨k, hk, rfl⟩ := mem_opr ho
    have hc := hr.cost k hk
    refine ⟨⟨hc.1, by omega⟩, fac_small (hr.pre k hk) hr.nv hr.dom, fun e he => ?_⟩
    obtain ⟨j, hj, rfl⟩ := mem_eff he
    have h1 := hr.eff k hk j hj
    have := hr.dom (eff (opr t.ops k).effs j).var.toNat (by omega)
    have hn := hr.nv
    exact ⟨⟨h1.1, by omega⟩, ⟨h1.2.2.1, by omega⟩, fac_small (hr.whn k hk j hj) hr.nv hr.dom⟩
theorem no10_words {w : List UInt8} {ws : List (List UInt8)} (h : (10 : UInt8) ∉ w) (h2 : ∀ p ∈ ws, (10 : UInt8) ∉ p) : (10 : UInt8) ∉ w ++ ws.flatMap fun p => 32 :: p := by
  intro hm
  rw [List.mem_append] at hm
  rcases hm with hm | hm
  · exact h hm
  · obtain ⟨p, hp, hq⟩ := List.mem_flatMap.1 hm
    rw [List.mem_cons] at hq
    rcases hq with hq | hq
    · exact absurd hq (by decide)
    · exact h2 p hp hq
theorem no10_nums {w : List UInt8} {l : List Int} (h : (10 : UInt8) ∉ w) (hs : ∀ n ∈ l, Small n) : (10 : UInt8) ∉ w ++ nuL l l.length := by
  rw [nuL_words]
  exact no10_words h fun p hp => by
    obtain ⟨n, hn, rfl⟩ := List.mem_map.1 hp
    exact itoa_noc (.inl (by decide)) (hs n hn).1
theorem no10_facs {w : List UInt8} {l : List (Int × Int)} (h : (10 : UInt8) ∉ w) (hs : ∀ x ∈ l, Small x.1 ∧ Small x.2) : (10 : UInt8) ∉ w ++ faL l l.length := by
  rw [faL_words]
  exact no10_words h fun p hp => by
    obtain ⟨n, hn, rfl⟩ := List.mem_map.1 hp
    exact fx_noc (.inl (by decide)) (hs n hn)
theorem no10_effT {e : Eff} (h : EffS e) : (10 : UInt8) ∉ effT e := by
  refine no10_words (by decide) fun p hp => ?_
  rw [List.mem_cons] at hp
  rcases hp with rfl | hp
  · exact fx_noc (.inl (by decide)) ⟨h.1, h.2.1⟩
  · split at hp
    · cases hp
    · rw [List.mem_cons] at hp
      rcases hp with rfl | hp
      · decide
      · obtain ⟨x, hx, rfl⟩ := List.mem_map.1 hp
        exact fx_noc (.inl (by decide)) (h.2.2 x hx)
theorem no10_lines {t : Tsk} (h : chkC t = 0) : ∀ p ∈ lnsT t, (10 : UInt8) ∉ p := by
  have hs := tskS_of h
  have hm : misT t = false := (chk0 h).2.2.2
  intro p hp
  unfold lnsT at hp
  simp only [List.mem_cons] at hp
  rcases hp with rfl | rfl | rfl | hp
  · exact no10_nums (by decide) hs.vars
  · exact no10_nums (by decide) hs.init
  · exact no10_facs (by decide) hs.goal
  · obtain ⟨o, ho, hp⟩ := List.mem_flatMap.1 hp
    have hso := hs.ops o ho
    unfold opLs at hp
    simp only [List.mem_cons] at hp
    rcases hp with rfl | rfl | hp
    · obtain ⟨k, hk, rfl⟩ := mem_opr ho
      have h1 := anyB_false.1 hm k hk
      unfold misO at h1
      rw [Bool.or_eq_false_iff] at h1
      have h2 := anyB_false.1 h1.2
      unfold opT
      intro hx
      simp only [List.mem_append, List.mem_cons] at hx
      rcases hx with hx | hx | hx | hx
      · revert hx; decide
      · exact itoa_noc (.inl (by decide)) hso.1.1 hx
      · revert hx; decide
      · obtain ⟨j, hj, hb⟩ := List.mem_iff_getElem.1 hx
        have hj' : j < (opr t.ops k).name.size := by
          have : (opr t.ops k).name.size = (opr t.ops k).name.data.toList.length := by rw [Array.length_toList]; rfl
          omega
        have h3 := h2 j hj'
        unfold bad at h3
        rw [byt_eq hj'] at h3
        have h4 : (opr t.ops k).name[j] = 10 := hb
        rw [h4] at h3
        revert h3; decide
    · exact no10_facs (by decide) hso.2.1
    · obtain ⟨e, he, rfl⟩ := List.mem_map.1 hp
      exact no10_effT (hso.2.2 e he)
theorem taskW_fm {t : Tsk} (h : chkC t = 0) : taskW (fmL t t.ops.length) = some t := taskW_text (tskS_of h) (no10_lines h)
/-- Format's answer is read back as the task. -/
theorem fm_par {t : Tsk} (h : fmC t = 0) : chkC t = 0 ∧ parC (fmL t t.ops.length) = 0 ∧ parT (fmL t t.ops.length) = t ∧ fmS t = bs (fmL t t.ops.length) := by
  have h1 : chkC t = 0 := by
    unfold fmC at h
    split at h
    · exact h
    · rename_i h1; simpa using h1
  have h2 : ¬ 65536 < (fmL t t.ops.length).length := by
    intro h2
    unfold fmC at h
    rw [if_neg (by simp [h1]), if_pos h2] at h
    exact absurd h (by decide)
  obtain ⟨h3, h4⟩ := parC_some h2 (taskW_fm h1)
  refine ⟨h1, by rw [h3, h1], by rw [h4, if_pos h1], if_pos h⟩
/-- What Parse accepts is formatted to the text. -/
theorem par_fm {s : List UInt8} (h : parC s = 0) : fmC (parT s) = 0 ∧ fmS (parT s) = bs s ∧ chkC (parT s) = 0 := by
  have h0 : ¬ 65536 < s.length := by
    intro h0
    rw [(parC_large h0).1] at h
    exact absurd h (by decide)
  cases e : taskW s with
  | none => rw [(parC_none h0 e).1] at h; exact absurd h (by decide)
  | some t =>
    obtain ⟨h1, h2⟩ := parC_some h0 e
    rw [h1] at h
    rw [if_pos h] at h2
    rw [h2]
    have h3 := taskW_back e
    have h4 : fmC t = 0 := by
      unfold fmC
      rw [if_neg (by simp [h]), if_neg (by rw [h3]; exact h0)]
    exact ⟨h4, (if_pos h4).trans (by rw [h3]), h⟩
end

end Go.Proofs.YtbcbmpnikgeoeaaDoor

/- landmark: the cuts, plain; the search for a cut with the same operators. -/
import Derived.Test.YthhfckjddknmeaaLmCb
import Derived.Test.YthhfckjddknmeaaCutD
namespace Go.Proofs.Ythhfckjddknmeaa
set_option linter.unusedSimpArgs false
set_option linter.unusedVariables false
open Go Go.RowKit
set_option linter.unusedVariables false

/-- The least cost of the first n operators, at most M. -/
def mnC (t : Tsk) (ops : List Int) (M : Int) : Nat → Int
  | 0 => M
  | n + 1 => min (mnC t ops M n) (opr t.ops (nth ops n).toNat).cost
theorem mnC_succ (t : Tsk) (ops : List Int) (M : Int) (n : Nat) : mnC t ops M (n + 1) = min (mnC t ops M n) (opr t.ops (nth ops n).toNat).cost := rfl
theorem mnC_le (t : Tsk) (ops : List Int) (M : Int) : ∀ n, mnC t ops M n ≤ M
  | 0 => Int.le_refl _
  | n + 1 => by have := mnC_le t ops M n; rw [mnC_succ]; omega
theorem mnC_one (t : Tsk) (ops : List Int) (M : Int) : ∀ n, ∀ i, i < n → mnC t ops M n ≤ (opr t.ops (nth ops i).toNat).cost
  | n + 1, i, hi => by
    rw [mnC_succ]
    by_cases e : i = n
    · subst e; omega
    · have := mnC_one t ops M n i (by omega); omega
theorem mnC_same (t : Tsk) (ops : List Int) {M M' : Int} (h : (opr t.ops (nth ops 0).toNat).cost ≤ M) (h' : (opr t.ops (nth ops 0).toNat).cost ≤ M') : ∀ n, 0 < n → mnC t ops M n = mnC t ops M' n
  | n + 1, _ => by
    rw [mnC_succ, mnC_succ]
    by_cases e : n = 0
    · subst e; show min M _ = min M' _; omega
    · rw [mnC_same t ops h h' n (by omega)]
theorem mnC_low (t : Tsk) (ops : List Int) {M : Int} (hM : 0 ≤ M) (h : ∀ i, i < ops.length → 0 ≤ (opr t.ops (nth ops i).toNat).cost) : ∀ n, n ≤ ops.length → 0 ≤ mnC t ops M n
  | 0, _ => hM
  | n + 1, hn => by have := mnC_low t ops hM h n (by omega); have := h n (by omega); rw [mnC_succ]; omega
/-- Is there a cut with these operators? -/
def thB (l : List Cut) (ops : List Int) (k : Nat) : Bool := anyB k fun i => decide ((cut l i).ops = ops)
noncomputable def mkC (t : Tsk) (s : List Int) (M : Int) (f : Int × Int) : Cut := ⟨ach t s f, mnC t (ach t s f) M (ach t s f).length⟩
noncomputable def cuN (t : Tsk) (s : List Int) (F : List (Int × Int)) (M : Int) : Nat → List Cut
  | 0 => []
  | k + 1 => if thB (cuN t s F M k) (ach t s (fac F k)) (cuN t s F M k).length then cuN t s F M k else cuN t s F M k ++ [mkC t s M (fac F k)]
section
variable {t : Tsk} {s : List Int} {F : List (Int × Int)} {M : Int}
theorem cuN_yes {k : Nat} (h : thB (cuN t s F M k) (ach t s (fac F k)) (cuN t s F M k).length = true) : cuN t s F M (k + 1) = cuN t s F M k := by show (if _ then _ else _) = _; rw [if_pos h]
theorem cuN_no {k : Nat} (h : thB (cuN t s F M k) (ach t s (fac F k)) (cuN t s F M k).length = false) : cuN t s F M (k + 1) = cuN t s F M k ++ [mkC t s M (fac F k)] := by show (if _ then _ else _) = _; rw [if_neg (by rw [h]; simp)]
theorem cuN_len : ∀ k, (cuN t s F M k).length ≤ k
  | 0 => Nat.le_refl _
  | k + 1 => by
    have := cuN_len k
    cases h : thB (cuN t s F M k) (ach t s (fac F k)) (cuN t s F M k).length
    · rw [cuN_no h, List.length_append, List.length_singleton]; omega
    · rw [cuN_yes h]; omega
theorem mem_cuN : ∀ k, ∀ u ∈ cuN t s F M k, ∃ i, i < k ∧ u = mkC t s M (fac F i)
  | 0, u, h => by cases h
  | k + 1, u, h => by
    cases e : thB (cuN t s F M k) (ach t s (fac F k)) (cuN t s F M k).length
    · rw [cuN_no e] at h
      rcases List.mem_append.1 h with h | h
      · obtain ⟨i, hi, e⟩ := mem_cuN k u h; exact ⟨i, by omega, e⟩
      · rw [List.mem_singleton] at h; exact ⟨k, by omega, h⟩
    · rw [cuN_yes e] at h
      obtain ⟨i, hi, e⟩ := mem_cuN k u h; exact ⟨i, by omega, e⟩
theorem cuN_same {M' : Int} (h : ∀ i, i < F.length → mkC t s M (fac F i) = mkC t s M' (fac F i)) : ∀ k, k ≤ F.length → cuN t s F M k = cuN t s F M' k
  | 0, _ => rfl
  | k + 1, hk => by
    have ih := cuN_same h k (by omega)
    show (if _ then _ else _) = (if _ then _ else _)
    rw [ih, h k (by omega)]
theorem ach_rng {f : Int × Int} {i : Nat} (h : i < (ach t s f).length) : 0 ≤ nth (ach t s f) i ∧ nth (ach t s f) i < t.ops.length := by
  have hm : nth (ach t s f) i ∈ ach t s f := by unfold nth; simp [List.getD, h]
  obtain ⟨k, hk, e, _⟩ := mem_ach.1 hm
  rw [e]; omega
theorem ach_len {f : Int × Int} : (ach t s f).length ≤ t.ops.length := achN_len _
theorem mkC_same (hr : Right t) {f : Int × Int} (hne : ach t s f ≠ []) {M M' : Int} (h : 1048576 ≤ M) (h' : 1048576 ≤ M') : mkC t s M f = mkC t s M' f := by
  unfold mkC
  have hp : 0 < (ach t s f).length := List.length_pos_iff.2 hne
  have h1 := ach_rng hp
  have h2 := hr.cost (nth (ach t s f) 0).toNat (by omega)
  rw [mnC_same t (ach t s f) (M := M) (M' := M') (by omega) (by omega) _ hp]
theorem mnC_ge (hr : Right t) {f : Int × Int} {M : Int} (hM : 0 ≤ M) (n : Nat) (hn : n ≤ (ach t s f).length) : 0 ≤ mnC t (ach t s f) M n :=
  mnC_low t _ hM (fun i hi => by have := ach_rng hi; exact (hr.cost (nth (ach t s f) i).toNat (by omega)).1) n hn
end

set_option maxHeartbeats 1000000 in
theorem cuEq_any (a b : List Int) (A1 A2 : Option Addr) (c1 c2 X : Nat) (y : Int) (w : World) (h1 : IntsAt w w.heap.size A1 a) (h2 : IntsAt w w.heap.size A2 b) (hX : w.cell? ⟨X, 0, none⟩ = some (.slice A2 b.length c2)) (hl : X < w.heap.size) :
    Calls Try.prog 49 #[.agg #[.slice A1 a.length c1, .int .i64 y], .pointer (some ⟨X, 0, none⟩)] w fun e w' => e = .returned (.bool (decide (a = b))) ∧ Below w.heap.size w w' := by
  have K := Lib.hid (fun wx (hb : Below w.heap.size w wx) => equal_any a b A1 A2 c1 c2 wx (h1.up hb) (h2.up hb))
  clear h1 h2
  go_enter Try.func49, Try.ntmps49
  go_wp2_with fail
  refine (K.out _ (by repeat (first | exact Below.refl _ _ | refine below_dN ?_ _ | refine Below.drew ?_ | refine Below.alloc ?_ (by first | omega | (simp; done) | (simp; omega)) _ | refine Below.setCell ?_ (by first | omega | (simp; done) | (simp; omega)) _ | refine below_step (by assumption) (by first | omega | (simp; done) | (simp; omega)) ?_))).mono ?_
  rintro e w1 ⟨rfl, hb1⟩
  go_wp2
  go_ret
  exact ⟨rfl, by repeat (first | exact Below.refl _ _ | refine below_dN ?_ _ | refine Below.drew ?_ | refine Below.alloc ?_ (by first | omega | (simp; done) | (simp; omega)) _ | refine Below.setCell ?_ (by first | omega | (simp; done) | (simp; omega)) _ | refine below_step (by assumption) (by first | omega | (simp; done) | (simp; omega)) ?_)⟩

set_option maxHeartbeats 2000000 in
theorem cuIdx_any (l : List Cut) (b : List Int) (A A2 : Option Addr) (c c2 X : Nat) (w : World) (hl : CutsAt w w.heap.size A l) (h2 : IntsAt w w.heap.size A2 b) (hX : w.cell? ⟨X, 0, none⟩ = some (.slice A2 b.length c2)) (hlt : X < w.heap.size) :
    Calls Try.prog 60 #[.slice A l.length c, .func (.func 49) #[] #[.pointer (some ⟨X, 0, none⟩)]] w fun e w' => (∃ i, e = .returned (.int .i64 i) ∧ decide (0 ≤ i) = thB l b l.length) ∧ Below w.heap.size w w' := by
  have K := Lib.hid (fun (a : List Int) A1 c1 y wx (hb : Below w.heap.size w wx) (h1 : IntsAt wx wx.heap.size A1 a) => cuEq_any a b A1 A2 c1 c2 X y wx h1 (h2.up hb) ((hb.cell (p := ⟨X, 0, none⟩) hlt).trans hX) (Nat.lt_of_lt_of_le hlt hb.size))
  have l1 := hl.len
  clear hX h2
  go_enter Try.func60, Try.ntmps60
  go_wp2
  go_loopw [8] (fun i wr => ∃ k : Nat, k ≤ l.length ∧ i = .int .i64 k ∧ Hid (thB l b k = false) ∧ Below w.heap.size w wr) (fun i _ => l.length - (intOf i).toNat)
  case atStart => exact ⟨0, by omega, rfl, rfl, Below.refl _ _⟩
  case round =>
    obtain ⟨k, hk, rfl, hB, hbel⟩ := hrel
    have hbz := hbel.size
    by_cases hltk : k < l.length
    · obtain ⟨b1, o1, S, c1, ea, hb1, d1, hI, d2⟩ := hl.at2 hbel hltk
      subst ea
      have g1 : b1 < wr.heap.size := by omega
      have k0 : (0 : Int) ≤ (k : Int) := by omega
      have k1 : (k : Int) < (l.length : Int) := by omega
      have KC := Lib.hid (K.out (cut l k).ops S c1 (cut l k).cost wr hbel (hI.up hbel))
      have HS : Hid (thB l b (k + 1) = (thB l b k || decide ((cut l k).ops = b))) := anyB_succ _ _
      clear hI
      cases e1 : decide ((cut l k).ops = b)
      · rw [e1] at KC
        go_wp2_with fail
        refine KC.out.mono ?_
        rintro e w' ⟨rfl, hb9⟩
        go_wp2
        go_roundw
        case rel => exact ⟨k + 1, by omega, by go_num, (by rw [HS.out, hB.out, e1]; rfl), hbel.trans (hb9.mono hbz)⟩
        case measure => simp [intOf]; omega
      · have Ht := Lib.hid (show thB l b l.length = true from anyB_true.2 ⟨k, hltk, e1⟩)
        rw [e1] at KC
        go_wp2_with fail
        refine KC.out.mono ?_
        rintro e w' ⟨rfl, hb9⟩
        go_wp2
        go_ret
        refine ⟨⟨_, rfl, ?_⟩, hbel.trans (hb9.mono hbz)⟩
        rw [Ht.out]
        simp
    · obtain rfl : k = l.length := by omega
      go_wp2
      go_ret
      refine ⟨⟨_, rfl, ?_⟩, hbel⟩
      rw [hB.out]
      rfl

set_option maxHeartbeats 1000000 in
theorem cuCon_any (l : List Cut) (b : List Int) (A A2 : Option Addr) (c c2 X : Nat) (w : World) (hl : CutsAt w w.heap.size A l) (h2 : IntsAt w w.heap.size A2 b) (hX : w.cell? ⟨X, 0, none⟩ = some (.slice A2 b.length c2)) (hlt : X < w.heap.size) :
    Calls Try.prog 48 #[.slice A l.length c, .func (.func 49) #[] #[.pointer (some ⟨X, 0, none⟩)]] w fun e w' => e = .returned (.bool (thB l b l.length)) ∧ Below w.heap.size w w' := by
  have k1 := Lib.hid (cuIdx_any l b A A2 c c2 X w hl h2 hX hlt)
  clear hl h2 hX
  go_enter Try.func48, Try.ntmps48
  go_wp2_with fail
  refine k1.out.mono ?_
  rintro e w1 ⟨⟨i, rfl, hi⟩, hb1⟩
  have Hi := Lib.hid hi
  clear hi
  go_wp2
  go_ret
  exact ⟨bool_ret Hi.out, by repeat (first | exact Below.refl _ _ | refine below_dN ?_ _ | refine Below.drew ?_ | refine Below.alloc ?_ (by first | omega | (simp; done) | (simp; omega)) _ | refine Below.setCell ?_ (by first | omega | (simp; done) | (simp; omega)) _ | refine below_step (by assumption) (by first | omega | (simp; done) | (simp; omega)) ?_)⟩

end Go.Proofs.Ythhfckjddknmeaa

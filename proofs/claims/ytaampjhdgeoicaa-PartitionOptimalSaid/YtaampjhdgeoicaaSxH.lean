/- simplex: the law's helpers: same, large, fracs. -/
import Derived.Test.YtaampjhdgeoicaaSxG
namespace Go.Proofs.Ytaampjhdgeoicaa
set_option linter.unusedSimpArgs false
set_option linter.unusedVariables false
open Go Go.RowKit
set_option linter.unusedVariables false

theorem neqF (a b c d : Int) (w : World) : (binOp .neq 29 (.agg #[.int .i64 a, .int .i64 b]) (.agg #[.int .i64 c, .int .i64 d])).run Try.prog w = .ok (.bool (!(decide (a = c) && decide (b = d)))) w := by
  by_cases e1 : a = c
  · by_cases e2 : b = d
    · simp [go_sem, e1, e2]
    · simp [go_sem, e1, e2]
  · simp [go_sem, e1]
/-- Two lists of fractions differ at i. -/
def dfB (a b : List (Int × Int)) (i : Nat) : Bool := !(decide (fv a i = fv b i) && decide (fx a i = fx b i))
def smB (a b : List (Int × Int)) : Bool := decide (a.length = b.length) && !anyB a.length (dfB a b)

set_option maxRecDepth 4000 in
set_option maxHeartbeats 1000000 in
theorem same_any (a b : List (Int × Int)) (A B : Option Addr) (c d : Nat) (w : World) (ha : FactsAt w w.heap.size A a) (hb : FactsAt w w.heap.size B b) :
    Calls Try.prog 10 #[.slice A a.length c, .slice B b.length d] w fun e w' => e = .returned (.bool (smB a b)) ∧ Below w.heap.size w w' := by
  have la := ha.len
  have lb := hb.len
  obtain ⟨r, hr⟩ : ∃ r, r = smB a b := ⟨_, rfl⟩
  rw [← hr]
  unfold smB at hr
  by_cases h1 : a.length = b.length
  · rw [decide_eq_true h1, Bool.true_and] at hr
    have e1 : ((a.length : Int) != (b.length : Int)) = false := by simp; omega
    have Hr := Lib.hid hr
    have H1 := Lib.hid h1
    clear hr h1
    go_enter Try.func10, Try.ntmps10
    go_wp2
    clear e1
    go_loopw [13] (fun i wr => ∃ k : Nat, k ≤ a.length ∧ i = .int .i64 k ∧ Hid (anyB k (dfB a b) = false) ∧ Below w.heap.size w wr) (fun i _ => a.length - (intOf i).toNat)
    case atStart => exact ⟨0, by omega, rfl, rfl, Below.refl _ _⟩
    case round =>
      obtain ⟨k, hk, rfl, hB, hbel⟩ := hrel
      have hbz := hbel.size
      by_cases hlt : k < a.length
      · obtain ⟨b1, o1, ea, hb1, hc1⟩ := ha.at_ hlt
        have hlt2 : k < b.length := by have := H1.out; omega
        obtain ⟨b2, o2, eb, hb2, hc2⟩ := hb.at_ hlt2
        subst ea eb
        have d1 := (hbel.cell (p := ⟨b1, o1 + k * 2, none⟩) hb1).trans (hc1 k hlt).1
        have d2 := (hbel.cell (p := ⟨b1, o1 + k * 2 + 1, none⟩) hb1).trans (hc1 k hlt).2
        have d3 := (hbel.cell (p := ⟨b2, o2 + k * 2, none⟩) hb2).trans (hc2 k hlt2).1
        have d4 := (hbel.cell (p := ⟨b2, o2 + k * 2 + 1, none⟩) hb2).trans (hc2 k hlt2).2
        have g1 : b1 < wr.heap.size := by omega
        have g2 : b2 < wr.heap.size := by omega
        have k0 : (0 : Int) ≤ (k : Int) := by omega
        have k1 : (k : Int) < (a.length : Int) := by omega
        have k2 : (k : Int) < (b.length : Int) := by omega
        have HS : Hid (anyB (k + 1) (dfB a b) = (anyB k (dfB a b) || dfB a b k)) := anyB_succ _ _
        have HD : Hid (dfB a b k = !(decide (fv a k = fv b k) && decide (fx a k = fx b k))) := rfl
        clear hc1 hc2
        have hq := neqF (fv a k) (fx a k) (fv b k) (fx b k)
        rw [← HD.out] at hq
        cases hd : dfB a b k
        · rw [hd] at hq
          have Hs := Lib.hid (show anyB (k + 1) (dfB a b) = false by rw [HS.out, hB.out, hd]; rfl)
          clear hd
          go_wp2_with fail
          go_quiet (fail)
          go_wp2
          go_roundw
          case rel => exact ⟨k + 1, by omega, by go_num, Hs.out, below_dN hbel _⟩
          case measure => simp [intOf]; omega
        · rw [hd] at hq
          have Hf := Lib.hid (show false = r by rw [Hr.out, anyB_true.2 ⟨k, hlt, hd⟩]; rfl)
          clear hd
          go_wp2_with fail
          go_quiet (fail)
          go_wp2
          go_ret
          exact ⟨by rw [← Hf.out]; rfl, below_dN hbel _⟩
      · obtain rfl : a.length = k := by omega
        have Hr2 := Lib.hid (show true = r by rw [Hr.out, hB.out]; rfl)
        go_wp2
        go_ret
        exact ⟨by rw [← Hr2.out]; rfl, hbel⟩
  · rw [decide_eq_false h1, Bool.false_and] at hr
    subst hr
    have e1 : ((a.length : Int) != (b.length : Int)) = true := by simp; omega
    clear h1
    go_enter Try.func10, Try.ntmps10
    go_wp2
    go_ret
    exact ⟨rfl, Below.refl _ _⟩

set_option maxRecDepth 4000 in
set_option maxHeartbeats 1000000 in
theorem large_any (c : List (Int × Int)) (R : List (List (Int × Int))) (b : List (Int × Int)) (Ac AR Ab : Option Addr) (cc cR cb : Nat) (w : World) (hc : FactsAt w w.heap.size Ac c) (hR : MxAt w AR R) (hb : FactsAt w w.heap.size Ab b) :
    Calls Try.prog 7 #[.agg #[.slice Ac c.length cc, .slice AR R.length cR, .slice Ab b.length cb]] w fun e w' => (∃ v : Bool, e = .returned (.bool v) ∧ (v = false → c.length + R.length + b.length ≤ 16)) ∧ Below w.heap.size w w' := by
  have lc := hc.len
  have lR := hR.1
  have lb := hb.len
  have HR := Lib.hid hR
  clear hc hR hb
  have q1 : IntKind.i64.wrap ((c.length : Int) + (R.length : Int)) = ((c.length + R.length : Nat) : Int) := by rw [Int.natCast_add]; exact IntWalk.i64_in _ (by omega)
  have q2 : IntKind.i64.wrap (((c.length + R.length : Nat) : Int) + (b.length : Int)) = ((c.length + R.length + b.length : Nat) : Int) := by rw [Int.natCast_add (c.length + R.length)]; exact IntWalk.i64_in _ (by omega)
  obtain ⟨N, hN⟩ : ∃ N, N = c.length + R.length + b.length := ⟨_, rfl⟩
  obtain ⟨N1, hN1⟩ : ∃ N1, N1 = c.length + R.length := ⟨_, rfl⟩
  rw [← hN1] at q1 q2
  rw [show N1 + b.length = N by omega] at q2
  have HN := Lib.hid hN
  have hN2 : N ≤ 422212465065984 := by omega
  clear hN hN1
  go_enter Try.func7, Try.ntmps7
  go_wp2
  go_loopw [3, 20] (fun m i wr => ∃ (k M : Nat), k ≤ R.length ∧ i = .int .i64 k ∧ m = .int .i64 M ∧ N ≤ M ∧ M ≤ 422212465065984 ∧ Below w.heap.size w wr) (fun _ i _ => R.length - (intOf i).toNat)
  case atStart => exact ⟨0, N, by omega, rfl, rfl, Nat.le_refl _, hN2, by repeat (first | exact Below.refl _ _ | refine below_dN ?_ _ | refine Below.drew ?_ | refine Below.alloc ?_ (by first | omega | (simp; done) | (simp; omega)) _ | refine Below.setCell ?_ (by first | omega | (simp; done) | (simp; omega)) _ | refine below_step (by assumption) (by first | omega | (simp; done) | (simp; omega)) ?_)⟩
  case round =>
    obtain ⟨k, M, hk, rfl, rfl, hM, hM2, hbel⟩ := hrel
    have hbz := hbel.size
    by_cases hlt : k < R.length
    · obtain ⟨b1, o1, ea, hb1, hc1⟩ := HR.out.at_ hlt
      subst ea
      obtain ⟨S, cS, d1, _, hS⟩ := hc1 k hlt
      have d1' := (hbel.cell (p := ⟨b1, o1 + k, none⟩) hb1).trans d1
      have g1 : b1 < wr.heap.size := by omega
      have ls := hS.len
      have k0 : (0 : Int) ≤ (k : Int) := by omega
      have k1 : (k : Int) < (R.length : Int) := by omega
      clear hc1 d1 hS
      go_wp2
      go_roundw
      case rel => exact ⟨k + 1, max M (mr R k).length, by omega, by go_num, by simp; split <;> omega, by omega, by omega, hbel⟩
      case measure => simp [intOf]; omega
    · obtain rfl : R.length = k := by omega
      go_wp2
      refine bodyPost_ret (v := .bool (decide (16 < (M : Int)))) (by simp [results, Try.results7, go_sem, ↓IntWalk.iteOmega, *]) rfl ⟨⟨_, rfl, fun h => ?_⟩, hbel⟩
      have := of_decide_eq_false h
      have := HN.out
      omega

/-- Fractions with the denominator 1. -/
def frl (l : List Int) (k : Nat) : List (Int × Int) := (l.take k).map fun x => (x, 1)
theorem frl_len {l : List Int} {k : Nat} (h : k ≤ l.length) : (frl l k).length = k := by unfold frl; rw [List.length_map, List.length_take]; omega
theorem frl_succ {l : List Int} {k : Nat} (h : k < l.length) : frl l (k + 1) = frl l k ++ [(nth l k, 1)] := by
  unfold frl
  rw [List.take_succ_eq_append_getElem h, List.map_append]
  simp [nth, List.getD, h]
theorem frl_all (l : List Int) : frl l l.length = l.map fun x => (x, 1) := by unfold frl; rw [List.take_length]
set_option maxRecDepth 4000 in
set_option maxHeartbeats 1000000 in
theorem fracs_any (l : List Int) (A : Option Addr) (c : Nat) (w : World) (h : IntsAt w w.heap.size A l) (hl : l.length ≤ 100) :
    Calls Try.prog 23 #[.slice A l.length c] w fun e w' => (∃ A' c', e = .returned (.slice A' l.length c') ∧ FactsAt w' w'.heap.size A' (l.map fun x => (x, 1))) ∧ Below w.heap.size w w' := by
  obtain ⟨inf, hi, iz0, iz1, iz2⟩ := info_parts infoC
  have lh := h.1
  go_enter Try.func23, Try.ntmps23
  go_wp2
  go_loopw [3, 8] (fun v i wr => ∃ (k : Nat) (A' : Option Addr) (c' : Nat), k ≤ l.length ∧ i = .int .i64 k ∧ v = .slice A' k c' ∧ Hid (wr.ownsRow w.heap.size 29 2 (.slice A' k c') (frl l k).length (fc (frl l k))) ∧ Below w.heap.size w wr) (fun _ i _ => l.length - (intOf i).toNat)
  case atStart => exact ⟨0, none, 0, by omega, rfl, rfl, Lib.hid (World.ownsRow_nil _ _ _ _), Below.refl _ _⟩
  case round =>
    obtain ⟨k, A', c', hk, rfl, rfl, hown, hbel⟩ := hrel
    have hbz := hbel.size
    have Hl := Lib.hid (frl_len (l := l) (k := k) hk)
    by_cases hlt : k < l.length
    · obtain ⟨b1, o1, ea, hb1, hc1⟩ := h.2 (by omega)
      subst ea
      have d1 := (hbel.cell (p := ⟨b1, o1 + k, none⟩) hb1).trans (hc1 k hlt)
      have g1 : b1 < wr.heap.size := by omega
      have k0 : (0 : Int) ≤ (k : Int) := by omega
      have k1 : (k : Int) < (l.length : Int) := by omega
      have Hl2 := Lib.hid (frl_len (l := l) (k := k + 1) hlt)
      have HS := Lib.hid (frl_succ hlt)
      clear hc1
      go_wp2_with (at_builtin; refine wpList_push rfl _ _ 22 rfl w.heap.size 29 inf (.agg #[.int .i64 0, .int .i64 0]) 2 16 undC hi iz0 iz1 iz2 rfl (by decide) (by decide) _ (frl l k).length (fc (frl l k)) rfl (hown.out.alloc _) wr.heap.size 29 [.int .i64 (nth l k), .int .i64 1] rfl rfl (heap_alloc_new _ _) (two_one rfl rfl) (by have := Hl.out; omega) (by first | omega | (simp; omega)) (B := w.heap.size) (W := w) (hbel.alloc hbz _) (Nat.le_refl _) ?_; intro v8 w8 ho8 hg8 hat8 hb8; have ho9 : w8.ownsRow w.heap.size 29 2 v8 (frl l (k + 1)).length (fc (frl l (k + 1))) := (by rw [HS.out, List.length_append, fc_app]; exact ho8); obtain ⟨A8, c8, rfl⟩ := own_shapeL ho9 Hl2.out; have Ho9 := Lib.hid ho9; clear ho8 ho9 hg8 hat8)
      go_roundw
      case rel => exact ⟨k + 1, A8, c8, by omega, by go_num, rfl, Ho9, hb8⟩
      case measure => simp [intOf]; omega
    · obtain rfl : l.length = k := by omega
      obtain ⟨A9, c9, hv, _, hF⟩ := own_fracs hown.out (by have := Hl.out; omega)
      injection hv with hv1 hv2 hv3
      subst hv1
      have HF := Lib.hid hF
      clear hv2 hv3 hF hown
      go_wp2
      go_ret
      exact ⟨⟨A', c', rfl, by have := HF.out; rw [frl_all] at this; exact this⟩, hbel⟩

end Go.Proofs.Ytaampjhdgeoicaa

/- Contracts of the reference's Mul, Div. -/
import Derived.Test.YtmbbojpghliaaaaFracJ
import Derived.Deep.RegionHeld3
namespace Go.Proofs.Ytmbbojpghliaaaa
set_option linter.unusedSimpArgs false
set_option linter.unusedVariables false
open Go.RowKit
set_option linter.unusedVariables false

/-- x * y of two quotients. -/
theorem prod_bounds (x y a b : Int) (h1 : 0 ≤ x) (h2 : x ≤ a) (h3 : 0 ≤ y) (h4 : y ≤ b) : 0 ≤ x * y ∧ x * y ≤ a * b :=
  ⟨Int.mul_nonneg h1 h3, Int.mul_le_mul h2 h4 h3 (by omega)⟩
theorem aI_tdiv (n g : Int) (hg : 1 ≤ g) : aI (n.tdiv g) = aI n / g := by
  unfold aI
  rw [Int.natAbs_tdiv]
  show ((n.natAbs / g.natAbs : Nat) : Int) = _
  rw [Int.natCast_ediv, Int.natAbs_of_nonneg (by omega : 0 ≤ g)]

set_option maxHeartbeats 1000000 in
theorem rmul_any (n d m e : Int) (w : World) :
    Calls Try.prog 27 #[.agg #[.int .i64 n, .int .i64 d], .agg #[.int .i64 m, .int .i64 e]] w (RetFC (mulF n d m e) w) := by
  by_cases p1 : prB n d = true
  · by_cases p2 : prB m e = true
    · obtain ⟨a1, a2, a3, a4, _⟩ := prB_bounds p1
      obtain ⟨b1, b2, b3, b4, _⟩ := prB_bounds p2
      have n1 := aI_nonneg n
      have n2 := aI_le n 1099511627776 a3 a4
      have m1 := aI_nonneg m
      have m2 := aI_le m 1099511627776 b3 b4
      have g1 := gI_pos (aI n) e b1
      have g2 := gI_le (aI n) e b1
      have h1 := gI_pos (aI m) d a1
      have h2 := gI_le (aI m) d a1
      obtain ⟨x1, x2⟩ := ediv_bound (aI n) (gI (aI n) e) g1 n1
      obtain ⟨y1, y2⟩ := ediv_bound (aI m) (gI (aI m) d) h1 m1
      obtain ⟨_, u2⟩ := ediv_bound e (gI (aI n) e) g1 (by omega)
      obtain ⟨_, v2⟩ := ediv_bound d (gI (aI m) d) h1 (by omega)
      have u1 := quot_pos (aI n) e b1
      have v1 := quot_pos (aI m) d a1
      obtain ⟨xy1, xy2⟩ := prod_bounds _ _ 1099511627776 1099511627776 x1 (by omega) y1 (by omega)
      obtain ⟨_, uv2⟩ := prod_bounds _ _ 1048576 1048576 (show 0 ≤ d / gI (aI m) d by omega) (by omega) (show 0 ≤ e / gI (aI n) e by omega) (by omega)
      have uv1 : 1 * 1 ≤ d / gI (aI m) d * (e / gI (aI n) e) := Int.mul_le_mul v1 u1 (by omega) (by omega)
      have hT : mulF n d m e = madeF (decide (n < 0) != decide (m < 0)) (aI n / gI (aI n) e * (aI m / gI (aI m) d)) (d / gI (aI m) d * (e / gI (aI n) e)) := by
        unfold mulF; rw [p1, p2, rmul_rat n d m e a1 b1, madeF_rat _ _ _ xy1 (by omega)]; rfl
      by_cases l : aI n / gI (aI n) e * (aI m / gI (aI m) d) ≤ 18446744073709551615
      · obtain ⟨s1, s2⟩ := mul_small _ _ xy1 l
        have hm := fun W => made_any (decide (n < 0) != decide (m < 0)) _ _ W xy1 l (by omega : 1 ≤ d / gI (aI m) d * (e / gI (aI n) e)) (by omega)
        rw [← hT] at hm
        obtain ⟨r, hr⟩ : ∃ r, mulF n d m e = r := ⟨_, rfl⟩
        rw [hr] at hm ⊢
        have Hm := Lib.hid hm
        clear hm hr hT
        go_enter Try.func27, Try.ntmps27
        go_wp2_with fail; refine (rproper_any _ _ _).mono ?_; rintro e w1 ⟨rfl, hb1⟩; obtain ⟨hc1, hf1, hz1, hlt1, hle1⟩ := cellsIf hb1 (by (try simp); exact rfl); (try have : w.heap.size < w1.heap.size := (by omega)); (try have : w.heap.size < w1.heap.size + 1 := (by omega)); (try have : w.heap.size < w1.heap.size + 1 + 1 := (by omega)); (try have : w.heap.size + 1 < w1.heap.size := (by omega)); (try have : w.heap.size + 1 < w1.heap.size + 1 := (by omega)); (try have : w.heap.size + 1 < w1.heap.size + 1 + 1 := (by omega)); (try have : w.heap.size + 1 + 1 < w1.heap.size := (by omega)); (try have : w.heap.size + 1 + 1 < w1.heap.size + 1 := (by omega)); (try have : w.heap.size + 1 + 1 < w1.heap.size + 1 + 1 := (by omega))
        go_wp2_with fail; refine (rproper_any _ _ _).mono ?_; rintro e w2 ⟨rfl, hb2⟩; obtain ⟨hc2, hf2, hz2, hlt2, hle2⟩ := cellsIf hb2 (by (try simp); exact rfl); (try have : w.heap.size < w2.heap.size := (by omega)); (try have : w.heap.size < w2.heap.size + 1 := (by omega)); (try have : w.heap.size < w2.heap.size + 1 + 1 := (by omega)); (try have : w.heap.size + 1 < w2.heap.size := (by omega)); (try have : w.heap.size + 1 < w2.heap.size + 1 := (by omega)); (try have : w.heap.size + 1 < w2.heap.size + 1 + 1 := (by omega)); (try have : w.heap.size + 1 + 1 < w2.heap.size := (by omega)); (try have : w.heap.size + 1 + 1 < w2.heap.size + 1 := (by omega)); (try have : w.heap.size + 1 + 1 < w2.heap.size + 1 + 1 := (by omega)); (try have : w1.heap.size < w2.heap.size := (by omega)); (try have : w1.heap.size < w2.heap.size + 1 := (by omega)); (try have : w1.heap.size < w2.heap.size + 1 + 1 := (by omega)); (try have : w1.heap.size + 1 < w2.heap.size := (by omega)); (try have : w1.heap.size + 1 < w2.heap.size + 1 := (by omega)); (try have : w1.heap.size + 1 < w2.heap.size + 1 + 1 := (by omega)); (try have : w1.heap.size + 1 + 1 < w2.heap.size := (by omega)); (try have : w1.heap.size + 1 + 1 < w2.heap.size + 1 := (by omega)); (try have : w1.heap.size + 1 + 1 < w2.heap.size + 1 + 1 := (by omega))
        go_wp2
        refine wp_region_aft (by kernel_rfl) (by kernel_rfl) (by (try simp); exact rfl) ?_; intro haft; (repeat (go_big_quiet_step ((first | (go_at_call 32; exact aft_same (size_any _ _ (by omega) (by omega))) | (go_at_call 33; exact aft_drew (rgcd_any _ _ _ (by omega) (by omega) (by omega) (by omega))) | (go_at_call 36; exact aft_same (mul64_def _ _ (by omega) (by omega) (by omega) (by omega) _)))))); refine wpQuiet_nil ?_; intro w3 hwx; have hb3 := aft_below hwx; clear hwx; obtain ⟨hc3, hf3, hz3, hlt3, hle3⟩ := cellsIf hb3 (by (try simp); exact rfl); (try have : w.heap.size < w3.heap.size := (by omega)); (try have : w.heap.size < w3.heap.size + 1 := (by omega)); (try have : w.heap.size < w3.heap.size + 1 + 1 := (by omega)); (try have : w.heap.size + 1 < w3.heap.size := (by omega)); (try have : w.heap.size + 1 < w3.heap.size + 1 := (by omega)); (try have : w.heap.size + 1 < w3.heap.size + 1 + 1 := (by omega)); (try have : w.heap.size + 1 + 1 < w3.heap.size := (by omega)); (try have : w.heap.size + 1 + 1 < w3.heap.size + 1 := (by omega)); (try have : w.heap.size + 1 + 1 < w3.heap.size + 1 + 1 := (by omega)); (try have : w1.heap.size < w3.heap.size := (by omega)); (try have : w1.heap.size < w3.heap.size + 1 := (by omega)); (try have : w1.heap.size < w3.heap.size + 1 + 1 := (by omega)); (try have : w1.heap.size + 1 < w3.heap.size := (by omega)); (try have : w1.heap.size + 1 < w3.heap.size + 1 := (by omega)); (try have : w1.heap.size + 1 < w3.heap.size + 1 + 1 := (by omega)); (try have : w1.heap.size + 1 + 1 < w3.heap.size := (by omega)); (try have : w1.heap.size + 1 + 1 < w3.heap.size + 1 := (by omega)); (try have : w1.heap.size + 1 + 1 < w3.heap.size + 1 + 1 := (by omega)); (try have : w2.heap.size < w3.heap.size := (by omega)); (try have : w2.heap.size < w3.heap.size + 1 := (by omega)); (try have : w2.heap.size < w3.heap.size + 1 + 1 := (by omega)); (try have : w2.heap.size + 1 < w3.heap.size := (by omega)); (try have : w2.heap.size + 1 < w3.heap.size + 1 := (by omega)); (try have : w2.heap.size + 1 < w3.heap.size + 1 + 1 := (by omega)); (try have : w2.heap.size + 1 + 1 < w3.heap.size := (by omega)); (try have : w2.heap.size + 1 + 1 < w3.heap.size + 1 := (by omega)); (try have : w2.heap.size + 1 + 1 < w3.heap.size + 1 + 1 := (by omega)); clear haft
        go_wp2
        refine wp_region_aft (by kernel_rfl) (by kernel_rfl) (by (try simp); exact rfl) ?_; intro haft; (repeat (go_big_quiet_step ((first | (go_at_call 32; exact aft_same (size_any _ _ (by omega) (by omega))) | (go_at_call 33; exact aft_drew (rgcd_any _ _ _ (by omega) (by omega) (by omega) (by omega))) | (go_at_call 36; exact aft_same (mul64_def _ _ (by omega) (by omega) (by omega) (by omega) _)))))); refine wpQuiet_nil ?_; intro w4 hwx; have hb4 := aft_below hwx; clear hwx; obtain ⟨hc4, hf4, hz4, hlt4, hle4⟩ := cellsIf hb4 (by (try simp); exact rfl); (try have : w.heap.size < w4.heap.size := (by omega)); (try have : w.heap.size < w4.heap.size + 1 := (by omega)); (try have : w.heap.size < w4.heap.size + 1 + 1 := (by omega)); (try have : w.heap.size + 1 < w4.heap.size := (by omega)); (try have : w.heap.size + 1 < w4.heap.size + 1 := (by omega)); (try have : w.heap.size + 1 < w4.heap.size + 1 + 1 := (by omega)); (try have : w.heap.size + 1 + 1 < w4.heap.size := (by omega)); (try have : w.heap.size + 1 + 1 < w4.heap.size + 1 := (by omega)); (try have : w.heap.size + 1 + 1 < w4.heap.size + 1 + 1 := (by omega)); (try have : w1.heap.size < w4.heap.size := (by omega)); (try have : w1.heap.size < w4.heap.size + 1 := (by omega)); (try have : w1.heap.size < w4.heap.size + 1 + 1 := (by omega)); (try have : w1.heap.size + 1 < w4.heap.size := (by omega)); (try have : w1.heap.size + 1 < w4.heap.size + 1 := (by omega)); (try have : w1.heap.size + 1 < w4.heap.size + 1 + 1 := (by omega)); (try have : w1.heap.size + 1 + 1 < w4.heap.size := (by omega)); (try have : w1.heap.size + 1 + 1 < w4.heap.size + 1 := (by omega)); (try have : w1.heap.size + 1 + 1 < w4.heap.size + 1 + 1 := (by omega)); (try have : w2.heap.size < w4.heap.size := (by omega)); (try have : w2.heap.size < w4.heap.size + 1 := (by omega)); (try have : w2.heap.size < w4.heap.size + 1 + 1 := (by omega)); (try have : w2.heap.size + 1 < w4.heap.size := (by omega)); (try have : w2.heap.size + 1 < w4.heap.size + 1 := (by omega)); (try have : w2.heap.size + 1 < w4.heap.size + 1 + 1 := (by omega)); (try have : w2.heap.size + 1 + 1 < w4.heap.size := (by omega)); (try have : w2.heap.size + 1 + 1 < w4.heap.size + 1 := (by omega)); (try have : w2.heap.size + 1 + 1 < w4.heap.size + 1 + 1 := (by omega)); (try have : w3.heap.size < w4.heap.size := (by omega)); (try have : w3.heap.size < w4.heap.size + 1 := (by omega)); (try have : w3.heap.size < w4.heap.size + 1 + 1 := (by omega)); (try have : w3.heap.size + 1 < w4.heap.size := (by omega)); (try have : w3.heap.size + 1 < w4.heap.size + 1 := (by omega)); (try have : w3.heap.size + 1 < w4.heap.size + 1 + 1 := (by omega)); (try have : w3.heap.size + 1 + 1 < w4.heap.size := (by omega)); (try have : w3.heap.size + 1 + 1 < w4.heap.size + 1 := (by omega)); (try have : w3.heap.size + 1 + 1 < w4.heap.size + 1 + 1 := (by omega)); clear haft
        go_wp2
        have ca : w4.cell? ⟨w.heap.size, 0, none⟩ = some (.int .i64 n) := by simp [go_sem, ↓IntWalk.iteOmega, *]
        have cb : w4.cell? ⟨w.heap.size, 1, none⟩ = some (.int .i64 d) := by simp [go_sem, ↓IntWalk.iteOmega, *]
        have cc : w4.cell? ⟨w.heap.size + 1, 0, none⟩ = some (.int .i64 m) := by simp [go_sem, ↓IntWalk.iteOmega, *]
        have cd : w4.cell? ⟨w.heap.size + 1, 1, none⟩ = some (.int .i64 e) := by simp [go_sem, ↓IntWalk.iteOmega, *]
        have z1 : gI (aI n) e ≠ 0 := by omega
        have z2 : gI (aI m) d ≠ 0 := by omega
        have z3 : IntKind.u64.wrap (Int.tdiv d (gI (aI m) d)) = d / gI (aI m) d := IntWalk.u64_quo _ _ ⟨by omega, by omega, by omega⟩
        have z4 : IntKind.u64.wrap (Int.tdiv e (gI (aI n) e)) = e / gI (aI n) e := IntWalk.u64_quo _ _ ⟨by omega, by omega, by omega⟩
        have z5 : IntKind.u64.wrap (d / gI (aI m) d * (e / gI (aI n) e)) = d / gI (aI m) d * (e / gI (aI n) e) := IntWalk.u64_in _ ⟨by omega, by omega⟩
        have z6 : IntKind.u64.wrap d = d := IntWalk.u64_in _ ⟨by omega, by omega⟩
        have z7 : IntKind.u64.wrap e = e := IntWalk.u64_in _ ⟨by omega, by omega⟩
        go_region_held3 (fun w' => w'.cell? ⟨w.heap.size, 0, none⟩ = some (.int .i64 n) ∧ w'.cell? ⟨w.heap.size, 1, none⟩ = some (.int .i64 d) ∧ w'.cell? ⟨w.heap.size + 1, 0, none⟩ = some (.int .i64 m) ∧ w'.cell? ⟨w.heap.size + 1, 1, none⟩ = some (.int .i64 e)) (((try dsimp only); (repeat' apply And.intro) <;> (first | (simp [go_sem, ↓IntWalk.iteOmega, *]; done) | assumption)))
          (first | (go_at_call 31; refine (Hm.out _).mono ?_; rintro e' w5 ⟨rfl, hb⟩; obtain ⟨hc, hf, hz, hlt, hle⟩ := cellsIf hb (by (try simp); exact rfl)))
        clear z3 z4 z5 z6 z7
        go_wp2
        refine bodyPost_ret (v := .tuple #[.agg #[.int .i64 r.1, .int .i64 r.2.1], .int .i64 r.2.2]) (by simp [results, Try.results27, go_sem, ↓IntWalk.iteOmega, *]) rfl (RetFC.mk rfl ?_)
        repeat (first | exact Below.refl _ _ | refine below_dN ?_ _ | refine Below.drew ?_ | refine Below.alloc ?_ (by first | omega | (simp; done) | (simp; omega)) _ | refine Below.setCell ?_ (by first | omega | (simp; done) | (simp; omega)) _ | refine below_step (by assumption) (by first | omega | (simp; done) | (simp; omega)) ?_)
      · have s1 := mul_large _ _ (by omega : 18446744073709551615 < aI n / gI (aI n) e * (aI m / gI (aI m) d))
        have H := Lib.hid (show mulF n d m e = (0, 0, 5) by
          have hT2 : mulF n d m e = toF (Rat.divInt n d * Rat.divInt m e) := by unfold mulF; rw [p1, p2]; rfl
          have hl := l
          rw [hT2, ← timesF_rat n d m e a1 b1 (prB_bounds p1).2.2.2.2 (prB_bounds p2).2.2.2.2]
          have z1 : n ≠ 0 := by intro h; subst h; simp [aI] at l
          have z2 : m ≠ 0 := by intro h; subst h; simp [aI] at l
          unfold timesF
          rw [if_neg (by omega), if_pos (Or.inl ?_)]
          have e1 := aI_tdiv n (gI n e) (gI_pos n e b1)
          have e2 := aI_tdiv m (gI m d) (gI_pos m d a1)
          rw [← gI_aI n e] at e1
          rw [← gI_aI m d] at e2
          rw [← gI_aI n e, ← gI_aI m d, e1, e2]
          have y0 : aI m / gI (aI m) d ≠ 0 := by intro h; rw [h] at l; simp at l
          exact (lt_div_iff _ _ _ (by omega)).2 (by omega))
        have s2 : decide (0 < mulHi (aI n / gI (aI n) e) (aI m / gI (aI m) d)) = true := by simpa using s1
        clear hT l
        go_enter Try.func27, Try.ntmps27
        go_wp2_with fail; refine (rproper_any _ _ _).mono ?_; rintro e w1 ⟨rfl, hb1⟩; obtain ⟨hc1, hf1, hz1, hlt1, hle1⟩ := cellsIf hb1 (by (try simp); exact rfl); (try have : w.heap.size < w1.heap.size := (by omega)); (try have : w.heap.size < w1.heap.size + 1 := (by omega)); (try have : w.heap.size < w1.heap.size + 1 + 1 := (by omega)); (try have : w.heap.size + 1 < w1.heap.size := (by omega)); (try have : w.heap.size + 1 < w1.heap.size + 1 := (by omega)); (try have : w.heap.size + 1 < w1.heap.size + 1 + 1 := (by omega)); (try have : w.heap.size + 1 + 1 < w1.heap.size := (by omega)); (try have : w.heap.size + 1 + 1 < w1.heap.size + 1 := (by omega)); (try have : w.heap.size + 1 + 1 < w1.heap.size + 1 + 1 := (by omega))
        go_wp2_with fail; refine (rproper_any _ _ _).mono ?_; rintro e w2 ⟨rfl, hb2⟩; obtain ⟨hc2, hf2, hz2, hlt2, hle2⟩ := cellsIf hb2 (by (try simp); exact rfl); (try have : w.heap.size < w2.heap.size := (by omega)); (try have : w.heap.size < w2.heap.size + 1 := (by omega)); (try have : w.heap.size < w2.heap.size + 1 + 1 := (by omega)); (try have : w.heap.size + 1 < w2.heap.size := (by omega)); (try have : w.heap.size + 1 < w2.heap.size + 1 := (by omega)); (try have : w.heap.size + 1 < w2.heap.size + 1 + 1 := (by omega)); (try have : w.heap.size + 1 + 1 < w2.heap.size := (by omega)); (try have : w.heap.size + 1 + 1 < w2.heap.size + 1 := (by omega)); (try have : w.heap.size + 1 + 1 < w2.heap.size + 1 + 1 := (by omega)); (try have : w1.heap.size < w2.heap.size := (by omega)); (try have : w1.heap.size < w2.heap.size + 1 := (by omega)); (try have : w1.heap.size < w2.heap.size + 1 + 1 := (by omega)); (try have : w1.heap.size + 1 < w2.heap.size := (by omega)); (try have : w1.heap.size + 1 < w2.heap.size + 1 := (by omega)); (try have : w1.heap.size + 1 < w2.heap.size + 1 + 1 := (by omega)); (try have : w1.heap.size + 1 + 1 < w2.heap.size := (by omega)); (try have : w1.heap.size + 1 + 1 < w2.heap.size + 1 := (by omega)); (try have : w1.heap.size + 1 + 1 < w2.heap.size + 1 + 1 := (by omega))
        go_wp2
        refine wp_region_aft (by kernel_rfl) (by kernel_rfl) (by (try simp); exact rfl) ?_; intro haft; (repeat (go_big_quiet_step ((first | (go_at_call 32; exact aft_same (size_any _ _ (by omega) (by omega))) | (go_at_call 33; exact aft_drew (rgcd_any _ _ _ (by omega) (by omega) (by omega) (by omega))) | (go_at_call 36; exact aft_same (mul64_def _ _ (by omega) (by omega) (by omega) (by omega) _)))))); refine wpQuiet_nil ?_; intro w3 hwx; have hb3 := aft_below hwx; clear hwx; obtain ⟨hc3, hf3, hz3, hlt3, hle3⟩ := cellsIf hb3 (by (try simp); exact rfl); (try have : w.heap.size < w3.heap.size := (by omega)); (try have : w.heap.size < w3.heap.size + 1 := (by omega)); (try have : w.heap.size < w3.heap.size + 1 + 1 := (by omega)); (try have : w.heap.size + 1 < w3.heap.size := (by omega)); (try have : w.heap.size + 1 < w3.heap.size + 1 := (by omega)); (try have : w.heap.size + 1 < w3.heap.size + 1 + 1 := (by omega)); (try have : w.heap.size + 1 + 1 < w3.heap.size := (by omega)); (try have : w.heap.size + 1 + 1 < w3.heap.size + 1 := (by omega)); (try have : w.heap.size + 1 + 1 < w3.heap.size + 1 + 1 := (by omega)); (try have : w1.heap.size < w3.heap.size := (by omega)); (try have : w1.heap.size < w3.heap.size + 1 := (by omega)); (try have : w1.heap.size < w3.heap.size + 1 + 1 := (by omega)); (try have : w1.heap.size + 1 < w3.heap.size := (by omega)); (try have : w1.heap.size + 1 < w3.heap.size + 1 := (by omega)); (try have : w1.heap.size + 1 < w3.heap.size + 1 + 1 := (by omega)); (try have : w1.heap.size + 1 + 1 < w3.heap.size := (by omega)); (try have : w1.heap.size + 1 + 1 < w3.heap.size + 1 := (by omega)); (try have : w1.heap.size + 1 + 1 < w3.heap.size + 1 + 1 := (by omega)); (try have : w2.heap.size < w3.heap.size := (by omega)); (try have : w2.heap.size < w3.heap.size + 1 := (by omega)); (try have : w2.heap.size < w3.heap.size + 1 + 1 := (by omega)); (try have : w2.heap.size + 1 < w3.heap.size := (by omega)); (try have : w2.heap.size + 1 < w3.heap.size + 1 := (by omega)); (try have : w2.heap.size + 1 < w3.heap.size + 1 + 1 := (by omega)); (try have : w2.heap.size + 1 + 1 < w3.heap.size := (by omega)); (try have : w2.heap.size + 1 + 1 < w3.heap.size + 1 := (by omega)); (try have : w2.heap.size + 1 + 1 < w3.heap.size + 1 + 1 := (by omega)); clear haft
        go_wp2
        refine wp_region_aft (by kernel_rfl) (by kernel_rfl) (by (try simp); exact rfl) ?_; intro haft; (repeat (go_big_quiet_step ((first | (go_at_call 32; exact aft_same (size_any _ _ (by omega) (by omega))) | (go_at_call 33; exact aft_drew (rgcd_any _ _ _ (by omega) (by omega) (by omega) (by omega))) | (go_at_call 36; exact aft_same (mul64_def _ _ (by omega) (by omega) (by omega) (by omega) _)))))); refine wpQuiet_nil ?_; intro w4 hwx; have hb4 := aft_below hwx; clear hwx; obtain ⟨hc4, hf4, hz4, hlt4, hle4⟩ := cellsIf hb4 (by (try simp); exact rfl); (try have : w.heap.size < w4.heap.size := (by omega)); (try have : w.heap.size < w4.heap.size + 1 := (by omega)); (try have : w.heap.size < w4.heap.size + 1 + 1 := (by omega)); (try have : w.heap.size + 1 < w4.heap.size := (by omega)); (try have : w.heap.size + 1 < w4.heap.size + 1 := (by omega)); (try have : w.heap.size + 1 < w4.heap.size + 1 + 1 := (by omega)); (try have : w.heap.size + 1 + 1 < w4.heap.size := (by omega)); (try have : w.heap.size + 1 + 1 < w4.heap.size + 1 := (by omega)); (try have : w.heap.size + 1 + 1 < w4.heap.size + 1 + 1 := (by omega)); (try have : w1.heap.size < w4.heap.size := (by omega)); (try have : w1.heap.size < w4.heap.size + 1 := (by omega)); (try have : w1.heap.size < w4.heap.size + 1 + 1 := (by omega)); (try have : w1.heap.size + 1 < w4.heap.size := (by omega)); (try have : w1.heap.size + 1 < w4.heap.size + 1 := (by omega)); (try have : w1.heap.size + 1 < w4.heap.size + 1 + 1 := (by omega)); (try have : w1.heap.size + 1 + 1 < w4.heap.size := (by omega)); (try have : w1.heap.size + 1 + 1 < w4.heap.size + 1 := (by omega)); (try have : w1.heap.size + 1 + 1 < w4.heap.size + 1 + 1 := (by omega)); (try have : w2.heap.size < w4.heap.size := (by omega)); (try have : w2.heap.size < w4.heap.size + 1 := (by omega)); (try have : w2.heap.size < w4.heap.size + 1 + 1 := (by omega)); (try have : w2.heap.size + 1 < w4.heap.size := (by omega)); (try have : w2.heap.size + 1 < w4.heap.size + 1 := (by omega)); (try have : w2.heap.size + 1 < w4.heap.size + 1 + 1 := (by omega)); (try have : w2.heap.size + 1 + 1 < w4.heap.size := (by omega)); (try have : w2.heap.size + 1 + 1 < w4.heap.size + 1 := (by omega)); (try have : w2.heap.size + 1 + 1 < w4.heap.size + 1 + 1 := (by omega)); (try have : w3.heap.size < w4.heap.size := (by omega)); (try have : w3.heap.size < w4.heap.size + 1 := (by omega)); (try have : w3.heap.size < w4.heap.size + 1 + 1 := (by omega)); (try have : w3.heap.size + 1 < w4.heap.size := (by omega)); (try have : w3.heap.size + 1 < w4.heap.size + 1 := (by omega)); (try have : w3.heap.size + 1 < w4.heap.size + 1 + 1 := (by omega)); (try have : w3.heap.size + 1 + 1 < w4.heap.size := (by omega)); (try have : w3.heap.size + 1 + 1 < w4.heap.size + 1 := (by omega)); (try have : w3.heap.size + 1 + 1 < w4.heap.size + 1 + 1 := (by omega)); clear haft
        go_wp2
        refine bodyPost_ret (v := .tuple #[.agg #[.int .i64 0, .int .i64 0], .int .i64 5]) (by simp [results, Try.results27, go_sem, ↓IntWalk.iteOmega, *]) rfl (RetFC.mk (by rw [H.out]) ?_)
        repeat (first | exact Below.refl _ _ | refine below_dN ?_ _ | refine Below.drew ?_ | refine Below.alloc ?_ (by first | omega | (simp; done) | (simp; omega)) _ | refine Below.setCell ?_ (by first | omega | (simp; done) | (simp; omega)) _ | refine below_step (by assumption) (by first | omega | (simp; done) | (simp; omega)) ?_)
    · have p3 : prB m e = false := by simpa using p2
      have H := Lib.hid (show mulF n d m e = (0, 0, 2) by unfold mulF; rw [p1, p3]; rfl)
      go_enter Try.func27, Try.ntmps27
      go_wp2_with (go_at_call 14; refine (rproper_any _ _ _).mono ?_; rintro e' w' ⟨rfl, hb⟩; obtain ⟨hc, hf, hz, hlt, hle⟩ := cellsIf hb (by (try simp); exact rfl))
      refine bodyPost_ret (v := .tuple #[.agg #[.int .i64 0, .int .i64 0], .int .i64 2]) (by simp [results, Try.results27, go_sem, ↓IntWalk.iteOmega, *]) rfl (RetFC.mk (by rw [H.out]) ?_)
      repeat (first | exact Below.refl _ _ | refine below_dN ?_ _ | refine Below.drew ?_ | refine Below.alloc ?_ (by first | omega | (simp; done) | (simp; omega)) _ | refine Below.setCell ?_ (by first | omega | (simp; done) | (simp; omega)) _ | refine below_step (by assumption) (by first | omega | (simp; done) | (simp; omega)) ?_)
  · have p3 : prB n d = false := by simpa using p1
    have H := Lib.hid (show mulF n d m e = (0, 0, 2) by unfold mulF; rw [p3]; rfl)
    go_enter Try.func27, Try.ntmps27
    go_wp2_with (go_at_call 14; refine (rproper_any _ _ _).mono ?_; rintro e' w' ⟨rfl, hb⟩; obtain ⟨hc, hf, hz, hlt, hle⟩ := cellsIf hb (by (try simp); exact rfl))
    refine bodyPost_ret (v := .tuple #[.agg #[.int .i64 0, .int .i64 0], .int .i64 2]) (by simp [results, Try.results27, go_sem, ↓IntWalk.iteOmega, *]) rfl (RetFC.mk (by rw [H.out]) ?_)
    repeat (first | exact Below.refl _ _ | refine below_dN ?_ _ | refine Below.drew ?_ | refine Below.alloc ?_ (by first | omega | (simp; done) | (simp; omega)) _ | refine Below.setCell ?_ (by first | omega | (simp; done) | (simp; omega)) _ | refine below_step (by assumption) (by first | omega | (simp; done) | (simp; omega)) ?_)

set_option maxHeartbeats 1000000 in
theorem rdiv_any (n d m e : Int) (w : World) :
    Calls Try.prog 28 #[.agg #[.int .i64 n, .int .i64 d], .agg #[.int .i64 m, .int .i64 e]] w (RetFC (divF n d m e) w) := by
  by_cases p1 : prB n d = true
  · by_cases p2 : prB m e = true
    · by_cases m0 : m = 0
      · have H := Lib.hid (show divF n d m e = (0, 0, 22) by unfold divF; rw [p1, p2, if_pos m0]; rfl)
        have c1 : (m == 0) = true := by simp [m0]
        clear m0
        go_enter Try.func28, Try.ntmps28
        go_wp2_with (go_at_call 14; refine (rproper_any _ _ _).mono ?_; rintro e' w' ⟨rfl, hb⟩; obtain ⟨hc, hf, hz, hlt, hle⟩ := cellsIf hb (by (try simp); exact rfl))
        refine bodyPost_ret (v := .tuple #[.agg #[.int .i64 0, .int .i64 0], .int .i64 22]) (by simp [results, Try.results28, go_sem, ↓IntWalk.iteOmega, *]) rfl (RetFC.mk (by rw [H.out]) ?_)
        repeat (first | exact Below.refl _ _ | refine below_dN ?_ _ | refine Below.drew ?_ | refine Below.alloc ?_ (by first | omega | (simp; done) | (simp; omega)) _ | refine Below.setCell ?_ (by first | omega | (simp; done) | (simp; omega)) _ | refine below_step (by assumption) (by first | omega | (simp; done) | (simp; omega)) ?_)
      have c1 : (m == 0) = false := by simp [m0]
      obtain ⟨a1, a2, a3, a4, _⟩ := prB_bounds p1
      obtain ⟨b1, b2, b3, b4, _⟩ := prB_bounds p2
      have n1 := aI_nonneg n
      have n2 := aI_le n 1099511627776 a3 a4
      have m1 : 1 ≤ aI m := by unfold aI; omega
      have m2 := aI_le m 1099511627776 b3 b4
      have g1 := gI_pos (aI n) (aI m) m1
      have g2 := gI_le (aI n) (aI m) m1
      have h1 := gI_pos e d a1
      have h2 := gI_le e d a1
      obtain ⟨x1, x2⟩ := ediv_bound (aI n) (gI (aI n) (aI m)) g1 n1
      obtain ⟨y1, y2⟩ := ediv_bound e (gI e d) h1 (by omega)
      obtain ⟨_, u2⟩ := ediv_bound (aI m) (gI (aI n) (aI m)) g1 (by omega)
      obtain ⟨_, v2⟩ := ediv_bound d (gI e d) h1 (by omega)
      have u1 := quot_pos (aI n) (aI m) m1
      have v1 := quot_pos e d a1
      obtain ⟨xy1, xy2⟩ := prod_bounds _ _ 1099511627776 1048576 x1 (by omega) y1 (by omega)
      obtain ⟨_, uv2⟩ := prod_bounds _ _ 1048576 1099511627776 (show 0 ≤ d / gI e d by omega) (by omega) (show 0 ≤ aI m / gI (aI n) (aI m) by omega) (by omega)
      have uv1 : 1 * 1 ≤ d / gI e d * (aI m / gI (aI n) (aI m)) := Int.mul_le_mul v1 u1 (by omega) (by omega)
      have hT : divF n d m e = madeF (decide (n < 0) != decide (m < 0)) (aI n / gI (aI n) (aI m) * (e / gI e d)) (d / gI e d * (aI m / gI (aI n) (aI m))) := by
        unfold divF; rw [p1, p2, if_neg m0, rdiv_rat n d m e a1 b1 m0, madeF_rat _ _ _ xy1 (by omega)]; rfl
      have hm := fun W => made_any (decide (n < 0) != decide (m < 0)) _ _ W xy1 (by omega) (by omega : 1 ≤ d / gI e d * (aI m / gI (aI n) (aI m))) (by omega)
      rw [← hT] at hm
      obtain ⟨r, hr⟩ : ∃ r, divF n d m e = r := ⟨_, rfl⟩
      rw [hr] at hm ⊢
      have Hm := Lib.hid hm
      clear hm hr hT m0
      go_enter Try.func28, Try.ntmps28
      go_wp2_with fail; refine (rproper_any _ _ _).mono ?_; rintro e w1 ⟨rfl, hb1⟩; obtain ⟨hc1, hf1, hz1, hlt1, hle1⟩ := cellsIf hb1 (by (try simp); exact rfl); (try have : w.heap.size < w1.heap.size := (by omega)); (try have : w.heap.size < w1.heap.size + 1 := (by omega)); (try have : w.heap.size < w1.heap.size + 1 + 1 := (by omega)); (try have : w.heap.size + 1 < w1.heap.size := (by omega)); (try have : w.heap.size + 1 < w1.heap.size + 1 := (by omega)); (try have : w.heap.size + 1 < w1.heap.size + 1 + 1 := (by omega)); (try have : w.heap.size + 1 + 1 < w1.heap.size := (by omega)); (try have : w.heap.size + 1 + 1 < w1.heap.size + 1 := (by omega)); (try have : w.heap.size + 1 + 1 < w1.heap.size + 1 + 1 := (by omega))
      go_wp2_with fail; refine (rproper_any _ _ _).mono ?_; rintro e w2 ⟨rfl, hb2⟩; obtain ⟨hc2, hf2, hz2, hlt2, hle2⟩ := cellsIf hb2 (by (try simp); exact rfl); (try have : w.heap.size < w2.heap.size := (by omega)); (try have : w.heap.size < w2.heap.size + 1 := (by omega)); (try have : w.heap.size < w2.heap.size + 1 + 1 := (by omega)); (try have : w.heap.size + 1 < w2.heap.size := (by omega)); (try have : w.heap.size + 1 < w2.heap.size + 1 := (by omega)); (try have : w.heap.size + 1 < w2.heap.size + 1 + 1 := (by omega)); (try have : w.heap.size + 1 + 1 < w2.heap.size := (by omega)); (try have : w.heap.size + 1 + 1 < w2.heap.size + 1 := (by omega)); (try have : w.heap.size + 1 + 1 < w2.heap.size + 1 + 1 := (by omega)); (try have : w1.heap.size < w2.heap.size := (by omega)); (try have : w1.heap.size < w2.heap.size + 1 := (by omega)); (try have : w1.heap.size < w2.heap.size + 1 + 1 := (by omega)); (try have : w1.heap.size + 1 < w2.heap.size := (by omega)); (try have : w1.heap.size + 1 < w2.heap.size + 1 := (by omega)); (try have : w1.heap.size + 1 < w2.heap.size + 1 + 1 := (by omega)); (try have : w1.heap.size + 1 + 1 < w2.heap.size := (by omega)); (try have : w1.heap.size + 1 + 1 < w2.heap.size + 1 := (by omega)); (try have : w1.heap.size + 1 + 1 < w2.heap.size + 1 + 1 := (by omega))
      go_wp2
      refine wp_region_aft (by kernel_rfl) (by kernel_rfl) (by (try simp); exact rfl) ?_; intro haft; (repeat (go_big_quiet_step ((first | (go_at_call 32; exact aft_same (size_any _ _ (by omega) (by omega))) | (go_at_call 33; exact aft_drew (rgcd_any _ _ _ (by omega) (by omega) (by omega) (by omega))))))); refine wpQuiet_nil ?_; intro w3 hwx; have hb3 := aft_below hwx; clear hwx; obtain ⟨hc3, hf3, hz3, hlt3, hle3⟩ := cellsIf hb3 (by (try simp); exact rfl); (try have : w.heap.size < w3.heap.size := (by omega)); (try have : w.heap.size < w3.heap.size + 1 := (by omega)); (try have : w.heap.size < w3.heap.size + 1 + 1 := (by omega)); (try have : w.heap.size + 1 < w3.heap.size := (by omega)); (try have : w.heap.size + 1 < w3.heap.size + 1 := (by omega)); (try have : w.heap.size + 1 < w3.heap.size + 1 + 1 := (by omega)); (try have : w.heap.size + 1 + 1 < w3.heap.size := (by omega)); (try have : w.heap.size + 1 + 1 < w3.heap.size + 1 := (by omega)); (try have : w.heap.size + 1 + 1 < w3.heap.size + 1 + 1 := (by omega)); (try have : w1.heap.size < w3.heap.size := (by omega)); (try have : w1.heap.size < w3.heap.size + 1 := (by omega)); (try have : w1.heap.size < w3.heap.size + 1 + 1 := (by omega)); (try have : w1.heap.size + 1 < w3.heap.size := (by omega)); (try have : w1.heap.size + 1 < w3.heap.size + 1 := (by omega)); (try have : w1.heap.size + 1 < w3.heap.size + 1 + 1 := (by omega)); (try have : w1.heap.size + 1 + 1 < w3.heap.size := (by omega)); (try have : w1.heap.size + 1 + 1 < w3.heap.size + 1 := (by omega)); (try have : w1.heap.size + 1 + 1 < w3.heap.size + 1 + 1 := (by omega)); (try have : w2.heap.size < w3.heap.size := (by omega)); (try have : w2.heap.size < w3.heap.size + 1 := (by omega)); (try have : w2.heap.size < w3.heap.size + 1 + 1 := (by omega)); (try have : w2.heap.size + 1 < w3.heap.size := (by omega)); (try have : w2.heap.size + 1 < w3.heap.size + 1 := (by omega)); (try have : w2.heap.size + 1 < w3.heap.size + 1 + 1 := (by omega)); (try have : w2.heap.size + 1 + 1 < w3.heap.size := (by omega)); (try have : w2.heap.size + 1 + 1 < w3.heap.size + 1 := (by omega)); (try have : w2.heap.size + 1 + 1 < w3.heap.size + 1 + 1 := (by omega)); clear haft
      go_wp2
      refine wp_region_aft (by kernel_rfl) (by kernel_rfl) (by (try simp); exact rfl) ?_; intro haft; (repeat (go_big_quiet_step ((first | (go_at_call 32; exact aft_same (size_any _ _ (by omega) (by omega))) | (go_at_call 33; exact aft_drew (rgcd_any _ _ _ (by omega) (by omega) (by omega) (by omega))))))); refine wpQuiet_nil ?_; intro w4 hwx; have hb4 := aft_below hwx; clear hwx; obtain ⟨hc4, hf4, hz4, hlt4, hle4⟩ := cellsIf hb4 (by (try simp); exact rfl); (try have : w.heap.size < w4.heap.size := (by omega)); (try have : w.heap.size < w4.heap.size + 1 := (by omega)); (try have : w.heap.size < w4.heap.size + 1 + 1 := (by omega)); (try have : w.heap.size + 1 < w4.heap.size := (by omega)); (try have : w.heap.size + 1 < w4.heap.size + 1 := (by omega)); (try have : w.heap.size + 1 < w4.heap.size + 1 + 1 := (by omega)); (try have : w.heap.size + 1 + 1 < w4.heap.size := (by omega)); (try have : w.heap.size + 1 + 1 < w4.heap.size + 1 := (by omega)); (try have : w.heap.size + 1 + 1 < w4.heap.size + 1 + 1 := (by omega)); (try have : w1.heap.size < w4.heap.size := (by omega)); (try have : w1.heap.size < w4.heap.size + 1 := (by omega)); (try have : w1.heap.size < w4.heap.size + 1 + 1 := (by omega)); (try have : w1.heap.size + 1 < w4.heap.size := (by omega)); (try have : w1.heap.size + 1 < w4.heap.size + 1 := (by omega)); (try have : w1.heap.size + 1 < w4.heap.size + 1 + 1 := (by omega)); (try have : w1.heap.size + 1 + 1 < w4.heap.size := (by omega)); (try have : w1.heap.size + 1 + 1 < w4.heap.size + 1 := (by omega)); (try have : w1.heap.size + 1 + 1 < w4.heap.size + 1 + 1 := (by omega)); (try have : w2.heap.size < w4.heap.size := (by omega)); (try have : w2.heap.size < w4.heap.size + 1 := (by omega)); (try have : w2.heap.size < w4.heap.size + 1 + 1 := (by omega)); (try have : w2.heap.size + 1 < w4.heap.size := (by omega)); (try have : w2.heap.size + 1 < w4.heap.size + 1 := (by omega)); (try have : w2.heap.size + 1 < w4.heap.size + 1 + 1 := (by omega)); (try have : w2.heap.size + 1 + 1 < w4.heap.size := (by omega)); (try have : w2.heap.size + 1 + 1 < w4.heap.size + 1 := (by omega)); (try have : w2.heap.size + 1 + 1 < w4.heap.size + 1 + 1 := (by omega)); (try have : w3.heap.size < w4.heap.size := (by omega)); (try have : w3.heap.size < w4.heap.size + 1 := (by omega)); (try have : w3.heap.size < w4.heap.size + 1 + 1 := (by omega)); (try have : w3.heap.size + 1 < w4.heap.size := (by omega)); (try have : w3.heap.size + 1 < w4.heap.size + 1 := (by omega)); (try have : w3.heap.size + 1 < w4.heap.size + 1 + 1 := (by omega)); (try have : w3.heap.size + 1 + 1 < w4.heap.size := (by omega)); (try have : w3.heap.size + 1 + 1 < w4.heap.size + 1 := (by omega)); (try have : w3.heap.size + 1 + 1 < w4.heap.size + 1 + 1 := (by omega)); clear haft
      go_wp2_with (go_at_call 31; refine (Hm.out _).mono ?_; rintro e' w5 ⟨rfl, hb⟩; obtain ⟨hc, hf, hz, hlt, hle⟩ := cellsIf hb (by (try simp); exact rfl))
      refine bodyPost_ret (v := .tuple #[.agg #[.int .i64 r.1, .int .i64 r.2.1], .int .i64 r.2.2]) (by simp [results, Try.results28, go_sem, ↓IntWalk.iteOmega, *]) rfl (RetFC.mk rfl ?_)
      repeat (first | exact Below.refl _ _ | refine below_dN ?_ _ | refine Below.drew ?_ | refine Below.alloc ?_ (by first | omega | (simp; done) | (simp; omega)) _ | refine Below.setCell ?_ (by first | omega | (simp; done) | (simp; omega)) _ | refine below_step (by assumption) (by first | omega | (simp; done) | (simp; omega)) ?_)
    · have p3 : prB m e = false := by simpa using p2
      have H := Lib.hid (show divF n d m e = (0, 0, 2) by unfold divF; rw [p1, p3]; rfl)
      go_enter Try.func28, Try.ntmps28
      go_wp2_with (go_at_call 14; refine (rproper_any _ _ _).mono ?_; rintro e' w' ⟨rfl, hb⟩; obtain ⟨hc, hf, hz, hlt, hle⟩ := cellsIf hb (by (try simp); exact rfl))
      refine bodyPost_ret (v := .tuple #[.agg #[.int .i64 0, .int .i64 0], .int .i64 2]) (by simp [results, Try.results28, go_sem, ↓IntWalk.iteOmega, *]) rfl (RetFC.mk (by rw [H.out]) ?_)
      repeat (first | exact Below.refl _ _ | refine below_dN ?_ _ | refine Below.drew ?_ | refine Below.alloc ?_ (by first | omega | (simp; done) | (simp; omega)) _ | refine Below.setCell ?_ (by first | omega | (simp; done) | (simp; omega)) _ | refine below_step (by assumption) (by first | omega | (simp; done) | (simp; omega)) ?_)
  · have p3 : prB n d = false := by simpa using p1
    have H := Lib.hid (show divF n d m e = (0, 0, 2) by unfold divF; rw [p3]; rfl)
    go_enter Try.func28, Try.ntmps28
    go_wp2_with (go_at_call 14; refine (rproper_any _ _ _).mono ?_; rintro e' w' ⟨rfl, hb⟩; obtain ⟨hc, hf, hz, hlt, hle⟩ := cellsIf hb (by (try simp); exact rfl))
    refine bodyPost_ret (v := .tuple #[.agg #[.int .i64 0, .int .i64 0], .int .i64 2]) (by simp [results, Try.results28, go_sem, ↓IntWalk.iteOmega, *]) rfl (RetFC.mk (by rw [H.out]) ?_)
    repeat (first | exact Below.refl _ _ | refine below_dN ?_ _ | refine Below.drew ?_ | refine Below.alloc ?_ (by first | omega | (simp; done) | (simp; omega)) _ | refine Below.setCell ?_ (by first | omega | (simp; done) | (simp; omega)) _ | refine below_step (by assumption) (by first | omega | (simp; done) | (simp; omega)) ?_)

end Go.Proofs.Ytmbbojpghliaaaa

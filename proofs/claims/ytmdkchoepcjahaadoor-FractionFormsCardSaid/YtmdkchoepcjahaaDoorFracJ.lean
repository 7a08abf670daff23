/- Contracts of Mul, Div. -/
import Derived.Test.YtmdkchoepcjahaaDoorFracI
namespace Go.Proofs.YtmdkchoepcjahaaDoor
set_option linter.unusedSimpArgs false
set_option linter.unusedVariables false
open Go.RowKit
set_option linter.unusedVariables false

set_option maxHeartbeats 1000000 in
theorem mul_any (n d m e : Int) (w : World) :
    Calls Tryd.prog 9 #[.agg #[.int .i64 n, .int .i64 d], .agg #[.int .i64 m, .int .i64 e]] w (RetFE (mulF n d m e) w) := by
  by_cases p1 : prB n d = true
  · by_cases p2 : prB m e = true
    · obtain ⟨a1, a2, a3, a4, _⟩ := prB_bounds p1
      obtain ⟨b1, b2, b3, b4, _⟩ := prB_bounds p2
      have hn := fun W => times_any n d m e W a3 a4 b3 b4 a1 (by omega) b1 (by omega)
      rw [times_mul p1 p2] at hn
      obtain ⟨r, hr⟩ : ∃ r, mulF n d m e = r := ⟨_, rfl⟩
      rw [hr] at hn ⊢
      have Hn := Lib.hid hn
      clear hn hr
      go_enter Tryd.func9, Tryd.ntmps9
      go_wp2_with (first | (go_at_call 6; refine (proper_any _ _ _).mono ?_; rintro e' w' ⟨rfl, hb⟩; obtain ⟨hc, hf, hz, hlt, hle⟩ := cellsIf hb (by (try simp); exact rfl)) | (go_at_call 23; refine (Hn.out _).mono ?_; rintro e' w' ⟨rfl, hb⟩; obtain ⟨hc, hf, hz, hlt, hle⟩ := cellsIf hb (by (try simp); exact rfl)))
      refine bodyPost_ret (v := .tuple #[.agg #[.int .i64 r.1, .int .i64 r.2.1], errV r.2.2]) (by simp [results, Tryd.results9, go_sem, ↓IntWalk.iteOmega, *]) rfl (RetFE.mk rfl ?_)
      repeat (first | exact Below.refl _ _ | refine below_dN ?_ _ | refine Below.drew ?_ | refine Below.alloc ?_ (by first | omega | (simp; done) | (simp; omega)) _ | refine Below.setCell ?_ (by first | omega | (simp; done) | (simp; omega)) _ | refine below_step (by assumption) (by first | omega | (simp; done) | (simp; omega)) ?_)
    · have p3 : prB m e = false := by simpa using p2
      have H := Lib.hid (show mulF n d m e = (0, 0, 2) by unfold mulF; rw [p1, p3]; rfl)
      go_enter Tryd.func9, Tryd.ntmps9
      go_wp2_with (go_at_call 6; refine (proper_any _ _ _).mono ?_; rintro e' w' ⟨rfl, hb⟩; obtain ⟨hc, hf, hz, hlt, hle⟩ := cellsIf hb (by (try simp); exact rfl))
      refine bodyPost_ret (v := .tuple #[.agg #[.int .i64 0, .int .i64 0], .iface 34 (.int .i64 2)]) (by simp [results, Tryd.results9, go_sem, ↓IntWalk.iteOmega, *]) rfl (RetFE.mk (by rw [H.out]; rfl) ?_)
      repeat (first | exact Below.refl _ _ | refine below_dN ?_ _ | refine Below.drew ?_ | refine Below.alloc ?_ (by first | omega | (simp; done) | (simp; omega)) _ | refine Below.setCell ?_ (by first | omega | (simp; done) | (simp; omega)) _ | refine below_step (by assumption) (by first | omega | (simp; done) | (simp; omega)) ?_)
  · have p3 : prB n d = false := by simpa using p1
    have H := Lib.hid (show mulF n d m e = (0, 0, 2) by unfold mulF; rw [p3]; rfl)
    go_enter Tryd.func9, Tryd.ntmps9
    go_wp2_with (go_at_call 6; refine (proper_any _ _ _).mono ?_; rintro e' w' ⟨rfl, hb⟩; obtain ⟨hc, hf, hz, hlt, hle⟩ := cellsIf hb (by (try simp); exact rfl))
    refine bodyPost_ret (v := .tuple #[.agg #[.int .i64 0, .int .i64 0], .iface 34 (.int .i64 2)]) (by simp [results, Tryd.results9, go_sem, ↓IntWalk.iteOmega, *]) rfl (RetFE.mk (by rw [H.out]; rfl) ?_)
    repeat (first | exact Below.refl _ _ | refine below_dN ?_ _ | refine Below.drew ?_ | refine Below.alloc ?_ (by first | omega | (simp; done) | (simp; omega)) _ | refine Below.setCell ?_ (by first | omega | (simp; done) | (simp; omega)) _ | refine below_step (by assumption) (by first | omega | (simp; done) | (simp; omega)) ?_)

set_option maxHeartbeats 1000000 in
theorem div_any (n d m e : Int) (w : World) :
    Calls Tryd.prog 10 #[.agg #[.int .i64 n, .int .i64 d], .agg #[.int .i64 m, .int .i64 e]] w (RetFE (divF n d m e) w) := by
  by_cases p1 : prB n d = true
  · by_cases p2 : prB m e = true
    · obtain ⟨a1, a2, a3, a4, _⟩ := prB_bounds p1
      obtain ⟨b1, b2, b3, b4, _⟩ := prB_bounds p2
      by_cases m0 : m = 0
      · have H := Lib.hid (show divF n d m e = (0, 0, 22) by unfold divF; rw [p1, p2, if_pos m0]; rfl)
        have c1 : (m == 0) = true := by simp [m0]
        clear m0
        go_enter Tryd.func10, Tryd.ntmps10
        go_wp2_with (go_at_call 6; refine (proper_any _ _ _).mono ?_; rintro e' w' ⟨rfl, hb⟩; obtain ⟨hc, hf, hz, hlt, hle⟩ := cellsIf hb (by (try simp); exact rfl))
        refine bodyPost_ret (v := .tuple #[.agg #[.int .i64 0, .int .i64 0], .iface 34 (.int .i64 22)]) (by simp [results, Tryd.results10, go_sem, ↓IntWalk.iteOmega, *]) rfl (RetFE.mk (by rw [H.out]; rfl) ?_)
        repeat (first | exact Below.refl _ _ | refine below_dN ?_ _ | refine Below.drew ?_ | refine Below.alloc ?_ (by first | omega | (simp; done) | (simp; omega)) _ | refine Below.setCell ?_ (by first | omega | (simp; done) | (simp; omega)) _ | refine below_step (by assumption) (by first | omega | (simp; done) | (simp; omega)) ?_)
      have c1 : (m == 0) = false := by simp [m0]
      by_cases m1 : m < 0
      · have c2 : decide (m < 0) = true := by simpa using m1
        have hn := fun W => times_any (-n) d e (-m) W (by omega) (by omega) (by omega) (by omega) a1 (by omega) (by omega) (by omega)
        rw [times_div_neg p1 p2 m1] at hn
        obtain ⟨r, hr⟩ : ∃ r, divF n d m e = r := ⟨_, rfl⟩
        rw [hr] at hn ⊢
        have Hn := Lib.hid hn
        clear hn hr m0
        go_enter Tryd.func10, Tryd.ntmps10
        go_wp2_with (first | (go_at_call 6; refine (proper_any _ _ _).mono ?_; rintro e' w' ⟨rfl, hb⟩; obtain ⟨hc, hf, hz, hlt, hle⟩ := cellsIf hb (by (try simp); exact rfl)) | (go_at_call 23; refine (Hn.out _).mono ?_; rintro e' w' ⟨rfl, hb⟩; obtain ⟨hc, hf, hz, hlt, hle⟩ := cellsIf hb (by (try simp); exact rfl)))
        refine bodyPost_ret (v := .tuple #[.agg #[.int .i64 r.1, .int .i64 r.2.1], errV r.2.2]) (by simp [results, Tryd.results10, go_sem, ↓IntWalk.iteOmega, *]) rfl (RetFE.mk rfl ?_)
        repeat (first | exact Below.refl _ _ | refine below_dN ?_ _ | refine Below.drew ?_ | refine Below.alloc ?_ (by first | omega | (simp; done) | (simp; omega)) _ | refine Below.setCell ?_ (by first | omega | (simp; done) | (simp; omega)) _ | refine below_step (by assumption) (by first | omega | (simp; done) | (simp; omega)) ?_)
      · have c2 : decide (m < 0) = false := by simpa using m1
        have hn := fun W => times_any n d e m W (by omega) (by omega) (by omega) (by omega) a1 (by omega) (by omega) (by omega)
        rw [times_div_pos p1 p2 (by omega)] at hn
        obtain ⟨r, hr⟩ : ∃ r, divF n d m e = r := ⟨_, rfl⟩
        rw [hr] at hn ⊢
        have Hn := Lib.hid hn
        clear hn hr m0
        go_enter Tryd.func10, Tryd.ntmps10
        go_wp2_with (first | (go_at_call 6; refine (proper_any _ _ _).mono ?_; rintro e' w' ⟨rfl, hb⟩; obtain ⟨hc, hf, hz, hlt, hle⟩ := cellsIf hb (by (try simp); exact rfl)) | (go_at_call 23; refine (Hn.out _).mono ?_; rintro e' w' ⟨rfl, hb⟩; obtain ⟨hc, hf, hz, hlt, hle⟩ := cellsIf hb (by (try simp); exact rfl)))
        refine bodyPost_ret (v := .tuple #[.agg #[.int .i64 r.1, .int .i64 r.2.1], errV r.2.2]) (by simp [results, Tryd.results10, go_sem, ↓IntWalk.iteOmega, *]) rfl (RetFE.mk rfl ?_)
        repeat (first | exact Below.refl _ _ | refine below_dN ?_ _ | refine Below.drew ?_ | refine Below.alloc ?_ (by first | omega | (simp; done) | (simp; omega)) _ | refine Below.setCell ?_ (by first | omega | (simp; done) | (simp; omega)) _ | refine below_step (by assumption) (by first | omega | (simp; done) | (simp; omega)) ?_)
    · have p3 : prB m e = false := by simpa using p2
      have H := Lib.hid (show divF n d m e = (0, 0, 2) by unfold divF; rw [p1, p3]; rfl)
      go_enter Tryd.func10, Tryd.ntmps10
      go_wp2_with (go_at_call 6; refine (proper_any _ _ _).mono ?_; rintro e' w' ⟨rfl, hb⟩; obtain ⟨hc, hf, hz, hlt, hle⟩ := cellsIf hb (by (try simp); exact rfl))
      refine bodyPost_ret (v := .tuple #[.agg #[.int .i64 0, .int .i64 0], .iface 34 (.int .i64 2)]) (by simp [results, Tryd.results10, go_sem, ↓IntWalk.iteOmega, *]) rfl (RetFE.mk (by rw [H.out]; rfl) ?_)
      repeat (first | exact Below.refl _ _ | refine below_dN ?_ _ | refine Below.drew ?_ | refine Below.alloc ?_ (by first | omega | (simp; done) | (simp; omega)) _ | refine Below.setCell ?_ (by first | omega | (simp; done) | (simp; omega)) _ | refine below_step (by assumption) (by first | omega | (simp; done) | (simp; omega)) ?_)
  · have p3 : prB n d = false := by simpa using p1
    have H := Lib.hid (show divF n d m e = (0, 0, 2) by unfold divF; rw [p3]; rfl)
    go_enter Tryd.func10, Tryd.ntmps10
    go_wp2_with (go_at_call 6; refine (proper_any _ _ _).mono ?_; rintro e' w' ⟨rfl, hb⟩; obtain ⟨hc, hf, hz, hlt, hle⟩ := cellsIf hb (by (try simp); exact rfl))
    refine bodyPost_ret (v := .tuple #[.agg #[.int .i64 0, .int .i64 0], .iface 34 (.int .i64 2)]) (by simp [results, Tryd.results10, go_sem, ↓IntWalk.iteOmega, *]) rfl (RetFE.mk (by rw [H.out]; rfl) ?_)
    repeat (first | exact Below.refl _ _ | refine below_dN ?_ _ | refine Below.drew ?_ | refine Below.alloc ?_ (by first | omega | (simp; done) | (simp; omega)) _ | refine Below.setCell ?_ (by first | omega | (simp; done) | (simp; omega)) _ | refine below_step (by assumption) (by first | omega | (simp; done) | (simp; omega)) ?_)

end Go.Proofs.YtmdkchoepcjahaaDoor

/- simplex: pivot. -/
import Derived.Test.YtaampjhdgeoicaaGreatMfA
import Derived.Test.YtaampjhdgeoicaaGreatSxE
namespace Go.Proofs.YtaampjhdgeoicaaGreat
set_option linter.unusedSimpArgs false
set_option linter.unusedVariables false
open Go Go.RowKit
set_option linter.unusedVariables false

def mixF (k : Nat) (f g : Nat → Rat) (j : Nat) : Rat := if j < k then f j else g j
theorem rowGe_two (w : World) (x y : Value) : rowGe (w.alloc (.cells #[x, y] 45)) w.heap.size 45 2 (fun i => if i = 0 then x else y) :=
 ⟨#[x, y], heap_alloc_new w _, Nat.le_refl _, fun i hi => by
  rcases i with _ | _ | i
  ·rfl
  ·rfl
  ·exact absurd hi (by omega)⟩
theorem fr_new (w : World) (x : Rat) : FrRow (w.alloc (.cells #[.int .i64 x.num, .int .i64 x.den] 45)) w.heap.size 1 (fun _ => x) :=
 (rowGe_two w _ _).congr fun i hi => by
  rcases i with _ | _ | i
  ·rfl
  ·rfl
  ·exact absurd hi (by omega)
theorem fr_of {w : World} {H : Nat} {f : Nat → Value} (h : rowGe w H 45 2 f) (x : Rat) : FrRow ((w.setCell ⟨H, 0, none⟩ (.int .i64 x.num)).setCell ⟨H, 1, none⟩ (.int .i64 x.den)) H 1 (fun _ => x) :=
 ((h.set 0 _).set 1 _).congr fun i hi => by
  rcases i with _ | _ | i
  ·rfl
  ·rfl
  ·exact absurd hi (by omega)
theorem two_zero {w : World} : rowGe (w.alloc (.cells #[.int .i64 0, .int .i64 0] 45)) w.heap.size 45 2 (fun _ => .int .i64 0) := (rowGe_two w _ _).congr fun i hi => by split <;> rfl

def updA' (T : TB) (a : Nat → Nat → Rat) (b : Nat → Rat) : TB := { T with a := a, b := b }
theorem TbM.rowR {w : World} {X m n N r : Nat} {L : TbL} {T : TB} {f : Nat → Rat} (h : TbM w X m n N L (updA T r f)) (hr : r < m) : FrRow w (L.rb r) N f := by
 have := h.rows r hr
 simpa [updA] using this
theorem updA_updA (T : TB) (r : Nat) (f g : Nat → Rat) : updA (updA T r f) r g = updA T r g := by
 unfold updA
 congr 1
 funext i
 dsimp only
 split <;> rfl
theorem elret_ok {N b1 : Nat} {g h : Nat → Rat} {f : Rat} {e : Ending} {w' : World} (hE : ElOK N g h f) (hr : ElRet N g h f b1 e w') : e = .returned .nilIface ∧ FrRow w' b1 N fun j => g j - f * h j := by
 rcases hr with ⟨h1, _, h3⟩ | ⟨_, h2⟩
 ·exact ⟨h1, h3⟩
 ·exact absurd hE h2
theorem elret_no {N b1 : Nat} {g h : Nat → Rat} {f : Rat} {e : Ending} {w' : World} (hE : ¬ ElOK N g h f) (hr : ElRet N g h f b1 e w') : e = .returned (.iface 49 (.int .i64 5)) := by
 rcases hr with ⟨_, h2, _⟩ | ⟨h1, _⟩
 ·exact absurd h2 hE
 ·exact h1
def PvRet (X m n N : Nat) (L : TbL) (T : TB) (r k : Nat) (e : Ending) (w' : World) : Prop :=
 (e = .returned .nilIface ∧ PivOK m N T r k ∧ TbM w' X m n N L (piv T r k)) ∨ (e = .returned (.iface 49 (.int .i64 5)) ∧ ¬ PivOK m N T r k)

set_option maxRecDepth 100000 in
set_option maxHeartbeats 16000000 in
theorem pivot_any (B X m n N : Nat) (L : TbL) (T : TB) (r k : Nat) (w : World) (hG : TbG B X m n N L) (hT : TbM w X m n N L T) (hs : Sml m N T) (hr : r < m) (hk : k < N) (hp : 0 < T.a r k) (hB : B ≤ w.heap.size) :
  Calls Tryz.prog 100 #[.pointer (some ⟨X, 0, none⟩), .int .i64 r, .int .i64 k] w fun e w' => PvRet X m n N L T r k e w' ∧ Below B w w' := by
 have hm0 : 0 < m := by omega
 have hsm := hG.sm
 have e2 := hG.e2 hm0
 have e3 := hG.e3 hm0
 have e4 := hG.e4 hm0
 have e5 := hG.e5 (by omega)
 have lr := hG.lr r hr
 have l2 := hG.l2 hm0
 have l5 := hG.l5 (by omega)
 have lX := hG.lX
 have tX := hT.lt
 have tg := (hT.top hm0).lt
 have tr := (hT.right hm0).lt
 have tb := (hT.basic hm0).lt
 have tc := (hT.goal (by omega)).lt
 have tR := (hT.rows r hr).lt
 have Htl := Lib.hid hT.tbp
 have HG := Lib.hid hG
 have HT := Lib.hid hT
 have Hs := Lib.hid hs
 have hpr : Rep (T.a r k) := hs.a r hr k hk
 obtain ⟨p, hpe⟩ : ∃ p, T.a r k = p := ⟨_, rfl⟩
 rw [hpe] at hp hpr
 have hp0 : p ≠ 0 := fun e => by rw [e] at hp; exact absurd hp (by decide)
 have Hpe := Lib.hid hpe
 have KD := Lib.hid (fun x (hx : Rep x) wx => div_any x.num x.den p.num p.den wx)
 have HD := Lib.hid (fun x (hx : Rep x) => divF_rep (x := x) hx hpr hp0)
 obtain ⟨q, hq⟩ : ∃ q : Nat → Rat, ∀ j, q j = T.a r j / p := ⟨_, fun _ => rfl⟩
 have Hq := Lib.hid hq
 have c2 := hT.c2
 rw [e2] at c2
 have a2 := (hT.top hm0).cell hr
 have a3 := (hT.rows r hr).num hk
 have a4 := (hT.rows r hr).den hk
 rw [hpe] at a3 a4
 have Hle : Hid (PivOK m N T r k → (∀ j, j < N → Rep (q j)) ∧ Rep (T.b r / p)) := Lib.hid (fun h => ⟨fun j hj => by rw [Hq.out, ← Hpe.out]; exact h.row j hj, by rw [← Hpe.out]; exact h.rhs⟩)
 have r0 : (0 : Int) ≤ (r : Int) := by omega
 have r1 : (r : Int) < (m : Int) := by omega
 have k0 : (0 : Int) ≤ (k : Int) := by omega
 have k1 : (k : Int) < (N : Int) := by omega
 clear hG hT hs hp hp0 hpr hpe hq
 go_enter Tryz.func100, Tryz.ntmps100
 go_wp2
 clear c2 a2 a3 a4
 have hP0 := fr_new w p
 have hbA : Below w.heap.size w (w.alloc (.cells #[.int .i64 p.num, .int .i64 p.den] 45)) := (Below.refl _ _).alloc (Nat.le_refl _) _
 go_loopw [32] (fun i wr => ∃ k' : Nat, k' ≤ N ∧ i = .int .i64 k' ∧ Hid (TbM wr X m n N L (updA T r (mixF k' q (T.a r)))) ∧ Hid (FrRow wr w.heap.size 1 (fun _ => p)) ∧ Hid (∀ j, j < k' → Rep (q j)) ∧ Hid (w.heap.size < wr.heap.size) ∧ Below B w wr) (fun i _ => N - (intOf i).toNat)
 case atStart => exact ⟨0, by omega, rfl, Lib.hid ((HT.out.up hbA).congr rfl (fun _ _ => rfl) (fun _ _ => rfl) (fun _ _ => rfl) (fun i hi j hj => by show T.a i j = (if i = r then _ else T.a i) j; split; (rename_i e; rw [e]; unfold mixF; rw [if_neg (by omega)]); rfl)), Lib.hid hP0, Lib.hid (fun j hj => absurd hj (by omega)), Lib.hid (by simp), hbA.mono hB⟩
 case round =>
  clear hP0 hbA
  obtain ⟨k', hk', rfl, hT1, hP, hok, hz, hbel⟩ := hrel
  have hz1 := hz.out
  have t0 := hP.out.num (j := 0) (by omega)
  have t1 := hP.out.den (j := 0) (by omega)
  simp only [Nat.zero_mul, Nat.zero_add] at t0 t1
  by_cases hlt : k' < N
  ·have hrow := Lib.hid (hT1.out.rowR hr)
   have hlt' := hlt
   have d0 := hrow.out.num hlt'
   have d1 := hrow.out.den hlt'
   unfold mixF at d0 d1
   simp only [if_neg (show ¬ k' < k' by omega)] at d0 d1
   have g1 : L.rb r < wr.heap.size := by omega
   have i0 : (0 : Int) ≤ (k' : Int) := by omega
   have i1 : (k' : Int) < (N : Int) := by omega
   have hra := Hs.out.a r hr k' hlt'
   have kk := fun wx => KD.out (T.a r k') hra wx
   rw [HD.out (T.a r k') hra, ← Hq.out k'] at kk
   unfold RetFE at kk
   by_cases hp : Rep (q k')
   ·rw [rep_toF hp] at kk
    simp only [errV_0] at kk
    obtain ⟨x, hx⟩ : ∃ x, q k' = x := ⟨_, rfl⟩
    rw [hx] at kk hp
    have Hx := Lib.hid hx
    have Hp := Lib.hid hp
    have K5 := Lib.hid kk
    clear kk hx hp hra
    go_wp2_with fail
    refine wp_region_G 5 (fun w' => ∀ b o, w'.cell? ⟨b, o, none⟩ = if b < wr.heap.size then wr.cell? ⟨b, o, none⟩ else hidC w' b o) (by kernel_rfl) (cif (B := wr.heap.size) (W := wr) (Below.refl _ _).drew) ?_
    intro hG0
    refine wpS1 0 hG0 ?_; intro hG1; clear hG0
    refine wpS1 1 hG1 ?_; intro hG2; clear hG1
    refine wpS1 2 hG2 ?_; intro hG3; clear hG2
    refine wpS2 3 hG3 ?_; intro hG4; clear hG3
    refine wpS2 4 hG4 ?_; intro hG5; clear hG4
    refine wpAnyG_ready (rs := [5, 9]) (by kernel_rfl) (by simp) (AllG.cons rfl hG5 (fun K hK => ?_) (AllG.cons rfl hG5 (fun K hK => ?_) AllG.nil))
    (go_simp; go_at_call 114; refine (K5.out _).mono ?_; rintro e w4 ⟨rfl, hb4⟩)
    refine hK.out _ _ (Or.inl rfl) (fun hG6 => wpN ?_); clear hK hG5
    refine wpS1 6 hG6 ?_; intro hG7; clear hG6
    refine wpS1 7 hG7 ?_; intro hG8; clear hG7
    refine wpS1 8 hG8 ?_; intro hG9; clear hG8
    refine wpAnyG_ready (rs := [9]) (by kernel_rfl) (by simp) (AllG.cons rfl hG9 (fun K hK => ?_) AllG.nil)
    (go_simp)
    refine hK.out _ _ (Or.inl rfl) (fun hG10 => wpN ?_); clear hK hG9
    refine wpAnyG_ready (rs := [10]) (by kernel_rfl) (by simp) (AllG.cons rfl hG10 (fun K hK => ?_) AllG.nil)
    (go_simp)
    refine hK.out _ _ (Or.inl rfl) (fun hG11 => wpN ?_); clear hK hG10
    refine wpS1 11 hG11 ?_; intro hG12; clear hG11
    refine wpAnyG_done (by kernel_rfl) ?_ _; clear hG12
    rotate_left
    (go_simp)
    refine hK.out _ _ (Or.inr (cif (by exact bel))) (fun hG6 => wpN ?_); clear hK hG5
    refine wpAnyG_ready (rs := [5]) (by kernel_rfl) (by simp) (AllG.cons rfl hG6 (fun K hK => ?_) AllG.nil)
    (go_simp; go_at_call 114; refine (K5.out _).mono ?_; rintro e w4 ⟨rfl, hb4⟩; have q0 : w4.cell? ⟨wr.heap.size, 0, none⟩ = some (.int .i64 0) := (hb4.cell (p := ⟨wr.heap.size, 0, none⟩) (by simp)).trans (by simp); have q1 : w4.cell? ⟨wr.heap.size, 1, none⟩ = some (.int .i64 0) := (hb4.cell (p := ⟨wr.heap.size, 1, none⟩) (by simp)).trans (by simp); have q2 : w4.frozen? ⟨wr.heap.size, 0, none⟩ = false := (hb4.frozen (p := ⟨wr.heap.size, 0, none⟩) (by simp)).trans (by simp); have q3 : w4.frozen? ⟨wr.heap.size, 1, none⟩ = false := (hb4.frozen (p := ⟨wr.heap.size, 1, none⟩) (by simp)).trans (by simp); have q4 : wr.heap.size < w4.heap.size := (by have := hb4.size; simp at this; omega))
    refine hK.out _ _ (Or.inl rfl) (fun hG7 => wpN ?_); clear hK hG6
    refine wpS1 6 hG7 ?_; intro hG8; clear hG7
    refine wpS1 7 hG8 ?_; intro hG9; clear hG8
    refine wpS1 8 hG9 ?_; intro hG10; clear hG9
    refine wpAnyG_ready (rs := [10]) (by kernel_rfl) (by simp) (AllG.cons rfl hG10 (fun K hK => ?_) AllG.nil)
    (go_simp)
    refine hK.out _ _ (Or.inl rfl) (fun hG11 => wpN ?_); clear hK hG10
    refine wpS1 11 hG11 ?_; intro hG12; clear hG11
    refine wpAnyG_done (by kernel_rfl) ?_ _; clear hG12
    rotate_left
    ·have hb5 : Below wr.heap.size wr (w4.alloc (.cells #[.int .i64 x.num, .int .i64 x.den] 45)) := ((Below.refl _ _).drew.trans hb4).alloc (by have := hb4.size; exact this) _
     have s0 : (w4.alloc (.cells #[.int .i64 x.num, .int .i64 x.den] 45)).cell? ⟨w4.heap.size, 0, none⟩ = some (.int .i64 x.num) := by simp
     have s1 : (w4.alloc (.cells #[.int .i64 x.num, .int .i64 x.den] 45)).cell? ⟨w4.heap.size, 1, none⟩ = some (.int .i64 x.den) := by simp
     have sY : w4.heap.size < (w4.alloc (.cells #[.int .i64 x.num, .int .i64 x.den] 45)).heap.size := by simp
     have sZ : wr.heap.size ≤ w4.heap.size := hb4.size
     clear hb4
     obtain ⟨w5, hw5⟩ : ∃ w5, w5 = w4.alloc (.cells #[.int .i64 x.num, .int .i64 x.den] 45) := ⟨_, rfl⟩
     obtain ⟨Y, hY⟩ : ∃ Y, Y = w4.heap.size := ⟨_, rfl⟩
     rw [← hw5, ← hY] at s0 s1 sY; rw [← hw5] at hb5; rw [← hY] at sZ; rw [← hw5, ← hY]; clear hw5 hY
     have hT5 := hT1.out.up (hb5.mono (Nat.le_refl _))
     have hr5 := hrow.out.up hb5
     have v0 := hr5.num hlt'
     have v1 := hr5.den hlt'
     unfold mixF at v0 v1
     simp only [if_neg (show ¬ k' < k' by omega)] at v0 v1
     have v2 := hr5.frozen (k' * 2)
     have v3 := hr5.frozen (k' * 2 + 1)
     have g5 : L.rb r < w5.heap.size := by have := hb5.size; omega
     have hk6 := ((Kw.refl (L.rb r) (L.rb r + 1) w5).set (p := ⟨L.rb r, k' * 2, none⟩) (Nat.le_refl _) (Nat.lt_succ_self _) (.int .i64 x.num)).set (p := ⟨L.rb r, k' * 2 + 1, none⟩) (Nat.le_refl _) (Nat.lt_succ_self _) (.int .i64 x.den)
     have hT6 := hT5.rowA HG.out hr hk6 ((hr5.set k' x).congr (g := mixF (k' + 1) q (T.a r)) fun j hj => by (unfold updF mixF; by_cases e : j = k'; (rw [if_pos e, if_pos (by omega), e, Hx.out]); (rw [if_neg e]; by_cases e2 : j < k'; (rw [if_pos e2, if_pos (by omega)]); (rw [if_neg e2, if_neg (by omega)]))))
     rw [updA_updA] at hT6
     have HT6 := Lib.hid hT6
     have HP6 := Lib.hid (hk6.row (hP.out.up hb5) (by omega))
     have Hb6 := Lib.hid (((hbel.trans (hb5.mono (by omega))).setCell (p := ⟨L.rb r, k' * 2, none⟩) lr (.int .i64 x.num)).setCell (p := ⟨L.rb r, k' * 2 + 1, none⟩) lr (.int .i64 x.den))
     have Hz6 := Lib.hid (show w.heap.size < ((w5.setCell ⟨L.rb r, k' * 2, none⟩ (.int .i64 x.num)).setCell ⟨L.rb r, k' * 2 + 1, none⟩ (.int .i64 x.den)).heap.size by simp [World.setCell]; have := hb5.size; omega)
     clear hT5 hr5 hk6 hT6
     go_wp2
     go_roundw
     case rel => exact ⟨k' + 1, by omega, by go_num, HT6.out, HP6.out, Lib.hid (fun j hj => by rcases Nat.lt_succ_iff_lt_or_eq.1 hj with e | rfl; exact hok.out j e; exact Hx.out ▸ Hp.out), Hz6.out, Hb6.out⟩
     case measure => simp [intOf]; omega
    ·have hb5 : Below wr.heap.size wr ((w4.setCell ⟨wr.heap.size, 0, none⟩ (.int .i64 x.num)).setCell ⟨wr.heap.size, 1, none⟩ (.int .i64 x.den)) := ((((Below.refl _ _).drew.alloc (Nat.le_refl _) _).trans (hb4.mono (by simp))).setCell (p := ⟨wr.heap.size, 0, none⟩) (Nat.le_refl _) _).setCell (p := ⟨wr.heap.size, 1, none⟩) (Nat.le_refl _) _
     have s0 : ((w4.setCell ⟨wr.heap.size, 0, none⟩ (.int .i64 x.num)).setCell ⟨wr.heap.size, 1, none⟩ (.int .i64 x.den)).cell? ⟨wr.heap.size, 0, none⟩ = some (.int .i64 x.num) := by rw [World.cell?_setCell_other _ _ _ _ (by simp)]; exact World.cell?_setCell_same _ _ _ q0
     have s1 : ((w4.setCell ⟨wr.heap.size, 0, none⟩ (.int .i64 x.num)).setCell ⟨wr.heap.size, 1, none⟩ (.int .i64 x.den)).cell? ⟨wr.heap.size, 1, none⟩ = some (.int .i64 x.den) := World.cell?_setCell_same _ _ _ ((World.cell?_setCell_other _ _ _ _ (by simp)).trans q1)
     have sY : wr.heap.size < ((w4.setCell ⟨wr.heap.size, 0, none⟩ (.int .i64 x.num)).setCell ⟨wr.heap.size, 1, none⟩ (.int .i64 x.den)).heap.size := by simpa [World.setCell] using q4
     have sZ : wr.heap.size ≤ wr.heap.size := Nat.le_refl _
     clear hb4 q0 q1 q2 q3 q4
     obtain ⟨w5, hw5⟩ : ∃ w5, w5 = ((w4.setCell ⟨wr.heap.size, 0, none⟩ (.int .i64 x.num)).setCell ⟨wr.heap.size, 1, none⟩ (.int .i64 x.den)) := ⟨_, rfl⟩
     rw [← hw5] at hb5 s0 s1 sY; rw [← hw5]; clear hw5
     have hT5 := hT1.out.up (hb5.mono (Nat.le_refl _))
     have hr5 := hrow.out.up hb5
     have v0 := hr5.num hlt'
     have v1 := hr5.den hlt'
     unfold mixF at v0 v1
     simp only [if_neg (show ¬ k' < k' by omega)] at v0 v1
     have v2 := hr5.frozen (k' * 2)
     have v3 := hr5.frozen (k' * 2 + 1)
     have g5 : L.rb r < w5.heap.size := by have := hb5.size; omega
     have hk6 := ((Kw.refl (L.rb r) (L.rb r + 1) w5).set (p := ⟨L.rb r, k' * 2, none⟩) (Nat.le_refl _) (Nat.lt_succ_self _) (.int .i64 x.num)).set (p := ⟨L.rb r, k' * 2 + 1, none⟩) (Nat.le_refl _) (Nat.lt_succ_self _) (.int .i64 x.den)
     have hT6 := hT5.rowA HG.out hr hk6 ((hr5.set k' x).congr (g := mixF (k' + 1) q (T.a r)) fun j hj => by (unfold updF mixF; by_cases e : j = k'; (rw [if_pos e, if_pos (by omega), e, Hx.out]); (rw [if_neg e]; by_cases e2 : j < k'; (rw [if_pos e2, if_pos (by omega)]); (rw [if_neg e2, if_neg (by omega)]))))
     rw [updA_updA] at hT6
     have HT6 := Lib.hid hT6
     have HP6 := Lib.hid (hk6.row (hP.out.up hb5) (by omega))
     have Hb6 := Lib.hid (((hbel.trans (hb5.mono (by omega))).setCell (p := ⟨L.rb r, k' * 2, none⟩) lr (.int .i64 x.num)).setCell (p := ⟨L.rb r, k' * 2 + 1, none⟩) lr (.int .i64 x.den))
     have Hz6 := Lib.hid (show w.heap.size < ((w5.setCell ⟨L.rb r, k' * 2, none⟩ (.int .i64 x.num)).setCell ⟨L.rb r, k' * 2 + 1, none⟩ (.int .i64 x.den)).heap.size by simp [World.setCell]; have := hb5.size; omega)
     clear hT5 hr5 hk6 hT6
     go_wp2
     go_roundw
     case rel => exact ⟨k' + 1, by omega, by go_num, HT6.out, HP6.out, Lib.hid (fun j hj => by rcases Nat.lt_succ_iff_lt_or_eq.1 hj with e | rfl; exact hok.out j e; exact Hx.out ▸ Hp.out), Hz6.out, Hb6.out⟩
     case measure => simp [intOf]; omega
   ·rw [not_rep hp] at kk
    simp only [errV_5] at kk
    have Hp := Lib.hid hp
    have K5 := Lib.hid kk
    clear kk hp hra
    go_wp2_with fail
    refine wp_region_G 5 (fun w' => ∀ b o, w'.cell? ⟨b, o, none⟩ = if b < wr.heap.size then wr.cell? ⟨b, o, none⟩ else hidC w' b o) (by kernel_rfl) (cif (B := wr.heap.size) (W := wr) (Below.refl _ _).drew) ?_
    intro hG0
    refine wpS1 0 hG0 ?_; intro hG1; clear hG0
    refine wpS1 1 hG1 ?_; intro hG2; clear hG1
    refine wpS1 2 hG2 ?_; intro hG3; clear hG2
    refine wpS2 3 hG3 ?_; intro hG4; clear hG3
    refine wpS2 4 hG4 ?_; intro hG5; clear hG4
    refine wpAnyG_ready (rs := [5, 9]) (by kernel_rfl) (by simp) (AllG.cons rfl hG5 (fun K hK => ?_) (AllG.cons rfl hG5 (fun K hK => ?_) AllG.nil))
    (go_simp; go_at_call 114; refine (K5.out _).mono ?_; rintro e w4 ⟨rfl, hb4⟩)
    refine hK.out _ _ (Or.inl rfl) (fun hG6 => wpN ?_); clear hK hG5
    refine wpS1 6 hG6 ?_; intro hG7; clear hG6
    refine wpS1 7 hG7 ?_; intro hG8; clear hG7
    refine wpS1 8 hG8 ?_; intro hG9; clear hG8
    refine wpAnyG_ready (rs := [9]) (by kernel_rfl) (by simp) (AllG.cons rfl hG9 (fun K hK => ?_) AllG.nil)
    (go_simp)
    refine hK.out _ _ (Or.inl rfl) (fun hG10 => wpN ?_); clear hK hG9
    refine wpAnyG_ready (rs := [10]) (by kernel_rfl) (by simp) (AllG.cons rfl hG10 (fun K hK => ?_) AllG.nil)
    (go_simp)
    refine hK.out _ _ (Or.inl rfl) (fun hG11 => wpN ?_); clear hK hG10
    refine wpS1 11 hG11 ?_; intro hG12; clear hG11
    refine wpAnyG_done (by kernel_rfl) ?_ _; clear hG12
    rotate_left
    (go_simp)
    refine hK.out _ _ (Or.inr (cif (by exact bel))) (fun hG6 => wpN ?_); clear hK hG5
    refine wpAnyG_ready (rs := [5]) (by kernel_rfl) (by simp) (AllG.cons rfl hG6 (fun K hK => ?_) AllG.nil)
    (go_simp; go_at_call 114; refine (K5.out _).mono ?_; rintro e w4 ⟨rfl, hb4⟩; have q0 : w4.cell? ⟨wr.heap.size, 0, none⟩ = some (.int .i64 0) := (hb4.cell (p := ⟨wr.heap.size, 0, none⟩) (by simp)).trans (by simp); have q1 : w4.cell? ⟨wr.heap.size, 1, none⟩ = some (.int .i64 0) := (hb4.cell (p := ⟨wr.heap.size, 1, none⟩) (by simp)).trans (by simp); have q2 : w4.frozen? ⟨wr.heap.size, 0, none⟩ = false := (hb4.frozen (p := ⟨wr.heap.size, 0, none⟩) (by simp)).trans (by simp); have q3 : w4.frozen? ⟨wr.heap.size, 1, none⟩ = false := (hb4.frozen (p := ⟨wr.heap.size, 1, none⟩) (by simp)).trans (by simp); have q4 : wr.heap.size < w4.heap.size := (by have := hb4.size; simp at this; omega))
    refine hK.out _ _ (Or.inl rfl) (fun hG7 => wpN ?_); clear hK hG6
    refine wpS1 6 hG7 ?_; intro hG8; clear hG7
    refine wpS1 7 hG8 ?_; intro hG9; clear hG8
    refine wpS1 8 hG9 ?_; intro hG10; clear hG9
    refine wpAnyG_ready (rs := [10]) (by kernel_rfl) (by simp) (AllG.cons rfl hG10 (fun K hK => ?_) AllG.nil)
    (go_simp)
    refine hK.out _ _ (Or.inl rfl) (fun hG11 => wpN ?_); clear hK hG10
    refine wpS1 11 hG11 ?_; intro hG12; clear hG11
    refine wpAnyG_done (by kernel_rfl) ?_ _; clear hG12
    rotate_left
    ·have hb5 : Below wr.heap.size wr (w4.alloc (.cells #[.int .i64 0, .int .i64 0] 45)) := ((Below.refl _ _).drew.trans hb4).alloc (by have := hb4.size; exact this) _
     have s0 : (w4.alloc (.cells #[.int .i64 0, .int .i64 0] 45)).cell? ⟨w4.heap.size, 0, none⟩ = some (.int .i64 0) := by simp
     have s1 : (w4.alloc (.cells #[.int .i64 0, .int .i64 0] 45)).cell? ⟨w4.heap.size, 1, none⟩ = some (.int .i64 0) := by simp
     have sY : w4.heap.size < (w4.alloc (.cells #[.int .i64 0, .int .i64 0] 45)).heap.size := by simp
     have sZ : wr.heap.size ≤ w4.heap.size := hb4.size
     clear hb4
     obtain ⟨w5, hw5⟩ : ∃ w5, w5 = w4.alloc (.cells #[.int .i64 0, .int .i64 0] 45) := ⟨_, rfl⟩
     obtain ⟨Y, hY⟩ : ∃ Y, Y = w4.heap.size := ⟨_, rfl⟩
     rw [← hw5, ← hY] at s0 s1 sY; rw [← hw5] at hb5; rw [← hY] at sZ; rw [← hw5, ← hY]; clear hw5 hY
     have Hb6 := Lib.hid (hbel.trans (hb5.mono (by omega)))
     go_wp2
     go_ret
     exact ⟨.inr ⟨rfl, fun h => Hp.out ((Hle.out h).1 k' hlt)⟩, Hb6.out⟩
    ·have hb5 : Below wr.heap.size wr ((w4.setCell ⟨wr.heap.size, 0, none⟩ (.int .i64 0)).setCell ⟨wr.heap.size, 1, none⟩ (.int .i64 0)) := ((((Below.refl _ _).drew.alloc (Nat.le_refl _) _).trans (hb4.mono (by simp))).setCell (p := ⟨wr.heap.size, 0, none⟩) (Nat.le_refl _) _).setCell (p := ⟨wr.heap.size, 1, none⟩) (Nat.le_refl _) _
     have s0 : ((w4.setCell ⟨wr.heap.size, 0, none⟩ (.int .i64 0)).setCell ⟨wr.heap.size, 1, none⟩ (.int .i64 0)).cell? ⟨wr.heap.size, 0, none⟩ = some (.int .i64 0) := by rw [World.cell?_setCell_other _ _ _ _ (by simp)]; exact World.cell?_setCell_same _ _ _ q0
     have s1 : ((w4.setCell ⟨wr.heap.size, 0, none⟩ (.int .i64 0)).setCell ⟨wr.heap.size, 1, none⟩ (.int .i64 0)).cell? ⟨wr.heap.size, 1, none⟩ = some (.int .i64 0) := World.cell?_setCell_same _ _ _ ((World.cell?_setCell_other _ _ _ _ (by simp)).trans q1)
     have sY : wr.heap.size < ((w4.setCell ⟨wr.heap.size, 0, none⟩ (.int .i64 0)).setCell ⟨wr.heap.size, 1, none⟩ (.int .i64 0)).heap.size := by simpa [World.setCell] using q4
     have sZ : wr.heap.size ≤ wr.heap.size := Nat.le_refl _
     clear hb4 q0 q1 q2 q3 q4
     obtain ⟨w5, hw5⟩ : ∃ w5, w5 = ((w4.setCell ⟨wr.heap.size, 0, none⟩ (.int .i64 0)).setCell ⟨wr.heap.size, 1, none⟩ (.int .i64 0)) := ⟨_, rfl⟩
     rw [← hw5] at hb5 s0 s1 sY; rw [← hw5]; clear hw5
     have Hb6 := Lib.hid (hbel.trans (hb5.mono (by omega)))
     go_wp2
     go_ret
     exact ⟨.inr ⟨rfl, fun h => Hp.out ((Hle.out h).1 k' hlt)⟩, Hb6.out⟩
  ·obtain rfl : N = k' := by omega
   obtain ⟨wa, rfl⟩ : ∃ wa : World, wa = wr := ⟨_, rfl⟩
   have hTq := hT1.out.congr (T' := updA T r q) rfl (fun _ _ => rfl) (fun _ _ => rfl) (fun _ _ => rfl) (fun i hi j hj => by show (if i = r then mixF N q (T.a r) else T.a i) j = (if i = r then q else T.a i) j; split; (unfold mixF; rw [if_pos hj]); rfl)
   have HTq := Lib.hid hTq
   have c3 := hTq.c3
   rw [e3] at c3
   have a0 := (hTq.right hm0).num hr
   have a1 := (hTq.right hm0).den hr
   have cX := hTq.lt
   have cr := (hTq.right hm0).lt
   have hRq := Lib.hid (hTq.rowR hr)
   obtain ⟨β, hβ⟩ : ∃ β, T.b r / p = β := ⟨_, rfl⟩
   have hrb := Hs.out.b r hr
   have kk := fun wx => KD.out (T.b r) hrb wx
   rw [HD.out (T.b r) hrb, hβ] at kk
   have Hβ := Lib.hid hβ
   unfold RetFE at kk
   clear hTq hT1 hrb hβ
   by_cases hpb : Rep β
   case neg =>
    rw [not_rep hpb] at kk
    simp only [errV_5] at kk
    have Hp := Lib.hid hpb
    have K5 := Lib.hid kk
    clear kk hpb
    go_wp2_with fail
    refine wp_region_G 8 (fun w' => ∀ b o, w'.cell? ⟨b, o, none⟩ = if b < wa.heap.size then wa.cell? ⟨b, o, none⟩ else hidC w' b o) (by kernel_rfl) (cif (B := wa.heap.size) (W := wa) (Below.refl _ _).drew) ?_
    intro hG0
    refine wpS1 0 hG0 ?_; intro hG1; clear hG0
    refine wpS1 1 hG1 ?_; intro hG2; clear hG1
    refine wpS1 2 hG2 ?_; intro hG3; clear hG2
    refine wpS2 3 hG3 ?_; intro hG4; clear hG3
    refine wpS1 4 hG4 ?_; intro hG5; clear hG4
    refine wpS1 5 hG5 ?_; intro hG6; clear hG5
    refine wpS2 6 hG6 ?_; intro hG7; clear hG6
    refine wpS2 7 hG7 ?_; intro hG8; clear hG7
    refine wpAnyG_ready (rs := [8, 12]) (by kernel_rfl) (by simp) (AllG.cons rfl hG8 (fun K hK => ?_) (AllG.cons rfl hG8 (fun K hK => ?_) AllG.nil))
    (go_simp; go_at_call 114; refine (K5.out _).mono ?_; rintro e w4 ⟨rfl, hb4⟩)
    refine hK.out _ _ (Or.inl rfl) (fun hG9 => wpN ?_); clear hK hG8
    refine wpS1 9 hG9 ?_; intro hG10; clear hG9
    refine wpS1 10 hG10 ?_; intro hG11; clear hG10
    refine wpS1 11 hG11 ?_; intro hG12; clear hG11
    refine wpAnyG_ready (rs := [12]) (by kernel_rfl) (by simp) (AllG.cons rfl hG12 (fun K hK => ?_) AllG.nil)
    (go_simp)
    refine hK.out _ _ (Or.inl rfl) (fun hG13 => wpN ?_); clear hK hG12
    refine wpAnyG_ready (rs := [13]) (by kernel_rfl) (by simp) (AllG.cons rfl hG13 (fun K hK => ?_) AllG.nil)
    (go_simp)
    refine hK.out _ _ (Or.inl rfl) (fun hG14 => wpN ?_); clear hK hG13
    refine wpS1 14 hG14 ?_; intro hG15; clear hG14
    refine wpAnyG_done (by kernel_rfl) ?_ _; clear hG15
    rotate_left
    (go_simp)
    refine hK.out _ _ (Or.inr (cif (by exact bel))) (fun hG9 => wpN ?_); clear hK hG8
    refine wpAnyG_ready (rs := [8]) (by kernel_rfl) (by simp) (AllG.cons rfl hG9 (fun K hK => ?_) AllG.nil)
    (go_simp; go_at_call 114; refine (K5.out _).mono ?_; rintro e w4 ⟨rfl, hb4⟩; have q0 : w4.cell? ⟨wa.heap.size, 0, none⟩ = some (.int .i64 0) := (hb4.cell (p := ⟨wa.heap.size, 0, none⟩) (by simp)).trans (by simp); have q1 : w4.cell? ⟨wa.heap.size, 1, none⟩ = some (.int .i64 0) := (hb4.cell (p := ⟨wa.heap.size, 1, none⟩) (by simp)).trans (by simp); have q2 : w4.frozen? ⟨wa.heap.size, 0, none⟩ = false := (hb4.frozen (p := ⟨wa.heap.size, 0, none⟩) (by simp)).trans (by simp); have q3 : w4.frozen? ⟨wa.heap.size, 1, none⟩ = false := (hb4.frozen (p := ⟨wa.heap.size, 1, none⟩) (by simp)).trans (by simp); have q4 : wa.heap.size < w4.heap.size := (by have := hb4.size; simp at this; omega))
    refine hK.out _ _ (Or.inl rfl) (fun hG10 => wpN ?_); clear hK hG9
    refine wpS1 9 hG10 ?_; intro hG11; clear hG10
    refine wpS1 10 hG11 ?_; intro hG12; clear hG11
    refine wpS1 11 hG12 ?_; intro hG13; clear hG12
    refine wpAnyG_ready (rs := [13]) (by kernel_rfl) (by simp) (AllG.cons rfl hG13 (fun K hK => ?_) AllG.nil)
    (go_simp)
    refine hK.out _ _ (Or.inl rfl) (fun hG14 => wpN ?_); clear hK hG13
    refine wpS1 14 hG14 ?_; intro hG15; clear hG14
    refine wpAnyG_done (by kernel_rfl) ?_ _; clear hG15
    rotate_left
    ·have hb5 : Below wa.heap.size wa (w4.alloc (.cells #[.int .i64 0, .int .i64 0] 45)) := ((Below.refl _ _).drew.trans hb4).alloc (by have := hb4.size; exact this) _
     have s0 : (w4.alloc (.cells #[.int .i64 0, .int .i64 0] 45)).cell? ⟨w4.heap.size, 0, none⟩ = some (.int .i64 0) := by simp
     have s1 : (w4.alloc (.cells #[.int .i64 0, .int .i64 0] 45)).cell? ⟨w4.heap.size, 1, none⟩ = some (.int .i64 0) := by simp
     have sY : w4.heap.size < (w4.alloc (.cells #[.int .i64 0, .int .i64 0] 45)).heap.size := by simp
     have sZ : wa.heap.size ≤ w4.heap.size := hb4.size
     clear hb4
     obtain ⟨w5, hw5⟩ : ∃ w5, w5 = w4.alloc (.cells #[.int .i64 0, .int .i64 0] 45) := ⟨_, rfl⟩
     obtain ⟨Y, hY⟩ : ∃ Y, Y = w4.heap.size := ⟨_, rfl⟩
     rw [← hw5, ← hY] at s0 s1 sY; rw [← hw5] at hb5; rw [← hY] at sZ; rw [← hw5, ← hY]; clear hw5 hY
     have Hb6 := Lib.hid (hbel.trans (hb5.mono (by omega)))
     go_wp2
     go_ret
     exact ⟨.inr ⟨rfl, fun h => Hp.out (Hβ.out ▸ (Hle.out h).2)⟩, Hb6.out⟩
    ·have hb5 : Below wa.heap.size wa ((w4.setCell ⟨wa.heap.size, 0, none⟩ (.int .i64 0)).setCell ⟨wa.heap.size, 1, none⟩ (.int .i64 0)) := ((((Below.refl _ _).drew.alloc (Nat.le_refl _) _).trans (hb4.mono (by simp))).setCell (p := ⟨wa.heap.size, 0, none⟩) (Nat.le_refl _) _).setCell (p := ⟨wa.heap.size, 1, none⟩) (Nat.le_refl _) _
     have s0 : ((w4.setCell ⟨wa.heap.size, 0, none⟩ (.int .i64 0)).setCell ⟨wa.heap.size, 1, none⟩ (.int .i64 0)).cell? ⟨wa.heap.size, 0, none⟩ = some (.int .i64 0) := by rw [World.cell?_setCell_other _ _ _ _ (by simp)]; exact World.cell?_setCell_same _ _ _ q0
     have s1 : ((w4.setCell ⟨wa.heap.size, 0, none⟩ (.int .i64 0)).setCell ⟨wa.heap.size, 1, none⟩ (.int .i64 0)).cell? ⟨wa.heap.size, 1, none⟩ = some (.int .i64 0) := World.cell?_setCell_same _ _ _ ((World.cell?_setCell_other _ _ _ _ (by simp)).trans q1)
     have sY : wa.heap.size < ((w4.setCell ⟨wa.heap.size, 0, none⟩ (.int .i64 0)).setCell ⟨wa.heap.size, 1, none⟩ (.int .i64 0)).heap.size := by simpa [World.setCell] using q4
     have sZ : wa.heap.size ≤ wa.heap.size := Nat.le_refl _
     clear hb4 q0 q1 q2 q3 q4
     obtain ⟨w5, hw5⟩ : ∃ w5, w5 = ((w4.setCell ⟨wa.heap.size, 0, none⟩ (.int .i64 0)).setCell ⟨wa.heap.size, 1, none⟩ (.int .i64 0)) := ⟨_, rfl⟩
     rw [← hw5] at hb5 s0 s1 sY; rw [← hw5]; clear hw5
     have Hb6 := Lib.hid (hbel.trans (hb5.mono (by omega)))
     go_wp2
     go_ret
     exact ⟨.inr ⟨rfl, fun h => Hp.out (Hβ.out ▸ (Hle.out h).2)⟩, Hb6.out⟩
   rw [rep_toF hpb] at kk
   simp only [errV_0] at kk
   have Hpb := Lib.hid hpb
   have K5 := Lib.hid kk
   clear kk hpb
   go_upto_region 11 with fail
   go_cut [12, 13] (fun x e wx => e = .nilIface ∧ ∃ Y, x = .pointer (some ⟨Y, 0, none⟩) ∧ Hid (wa.heap.size ≤ Y) ∧ Hid (FrRow wx Y 1 (fun _ => β)) ∧ Below wa.heap.size wa wx)
   case first =>
    go_wp2_with fail
    refine wp_region_G 8 (fun w' => ∀ b o, w'.cell? ⟨b, o, none⟩ = if b < wa.heap.size then wa.cell? ⟨b, o, none⟩ else hidC w' b o) (by kernel_rfl) (cif (B := wa.heap.size) (W := wa) (Below.refl _ _).drew) ?_
    intro hG0
    refine wpS1 0 hG0 ?_; intro hG1; clear hG0
    refine wpS1 1 hG1 ?_; intro hG2; clear hG1
    refine wpS1 2 hG2 ?_; intro hG3; clear hG2
    refine wpS2 3 hG3 ?_; intro hG4; clear hG3
    refine wpS1 4 hG4 ?_; intro hG5; clear hG4
    refine wpS1 5 hG5 ?_; intro hG6; clear hG5
    refine wpS2 6 hG6 ?_; intro hG7; clear hG6
    refine wpS2 7 hG7 ?_; intro hG8; clear hG7
    refine wpAnyG_ready (rs := [8, 12]) (by kernel_rfl) (by simp) (AllG.cons rfl hG8 (fun K hK => ?_) (AllG.cons rfl hG8 (fun K hK => ?_) AllG.nil))
    (go_simp; go_at_call 114; refine (K5.out _).mono ?_; rintro e w4 ⟨rfl, hb4⟩)
    refine hK.out _ _ (Or.inl rfl) (fun hG9 => wpN ?_); clear hK hG8
    refine wpS1 9 hG9 ?_; intro hG10; clear hG9
    refine wpS1 10 hG10 ?_; intro hG11; clear hG10
    refine wpS1 11 hG11 ?_; intro hG12; clear hG11
    refine wpAnyG_ready (rs := [12]) (by kernel_rfl) (by simp) (AllG.cons rfl hG12 (fun K hK => ?_) AllG.nil)
    (go_simp)
    refine hK.out _ _ (Or.inl rfl) (fun hG13 => wpN ?_); clear hK hG12
    refine wpAnyG_ready (rs := [13]) (by kernel_rfl) (by simp) (AllG.cons rfl hG13 (fun K hK => ?_) AllG.nil)
    (go_simp)
    refine hK.out _ _ (Or.inl rfl) (fun hG14 => wpN ?_); clear hK hG13
    refine wpS1 14 hG14 ?_; intro hG15; clear hG14
    refine wpAnyG_done (by kernel_rfl) ?_ _; clear hG15
    rotate_left
    (go_simp)
    refine hK.out _ _ (Or.inr (cif (by exact bel))) (fun hG9 => wpN ?_); clear hK hG8
    refine wpAnyG_ready (rs := [8]) (by kernel_rfl) (by simp) (AllG.cons rfl hG9 (fun K hK => ?_) AllG.nil)
    (go_simp; go_at_call 114; refine (K5.out _).mono ?_; rintro e w4 ⟨rfl, hb4⟩; have q0 : w4.cell? ⟨wa.heap.size, 0, none⟩ = some (.int .i64 0) := (hb4.cell (p := ⟨wa.heap.size, 0, none⟩) (by simp)).trans (by simp); have q1 : w4.cell? ⟨wa.heap.size, 1, none⟩ = some (.int .i64 0) := (hb4.cell (p := ⟨wa.heap.size, 1, none⟩) (by simp)).trans (by simp); have q2 : w4.frozen? ⟨wa.heap.size, 0, none⟩ = false := (hb4.frozen (p := ⟨wa.heap.size, 0, none⟩) (by simp)).trans (by simp); have q3 : w4.frozen? ⟨wa.heap.size, 1, none⟩ = false := (hb4.frozen (p := ⟨wa.heap.size, 1, none⟩) (by simp)).trans (by simp); have q4 : wa.heap.size < w4.heap.size := (by have := hb4.size; simp at this; omega); have q5 : rowGe w4 wa.heap.size 45 2 (fun _ => .int .i64 0) := rowGe.up (w := (wa.alloc (.cells #[.int .i64 0, .int .i64 0] 45)).drew) (two_zero (w := wa)) hb4)
    refine hK.out _ _ (Or.inl rfl) (fun hG10 => wpN ?_); clear hK hG9
    refine wpS1 9 hG10 ?_; intro hG11; clear hG10
    refine wpS1 10 hG11 ?_; intro hG12; clear hG11
    refine wpS1 11 hG12 ?_; intro hG13; clear hG12
    refine wpAnyG_ready (rs := [13]) (by kernel_rfl) (by simp) (AllG.cons rfl hG13 (fun K hK => ?_) AllG.nil)
    (go_simp)
    refine hK.out _ _ (Or.inl rfl) (fun hG14 => wpN ?_); clear hK hG13
    refine wpS1 14 hG14 ?_; intro hG15; clear hG14
    refine wpAnyG_done (by kernel_rfl) ?_ _; clear hG15
    rotate_left
    ·have hb5 : Below wa.heap.size wa (w4.alloc (.cells #[.int .i64 β.num, .int .i64 β.den] 45)) := ((Below.refl _ _).drew.trans hb4).alloc (by have := hb4.size; exact this) _
     have s0 : (w4.alloc (.cells #[.int .i64 β.num, .int .i64 β.den] 45)).cell? ⟨w4.heap.size, 0, none⟩ = some (.int .i64 β.num) := by simp
     have s1 : (w4.alloc (.cells #[.int .i64 β.num, .int .i64 β.den] 45)).cell? ⟨w4.heap.size, 1, none⟩ = some (.int .i64 β.den) := by simp
     have sY : w4.heap.size < (w4.alloc (.cells #[.int .i64 β.num, .int .i64 β.den] 45)).heap.size := by simp
     have sZ : wa.heap.size ≤ w4.heap.size := hb4.size
     have hF : FrRow (w4.alloc (.cells #[.int .i64 β.num, .int .i64 β.den] 45)) w4.heap.size 1 (fun _ => β) := fr_new _ _
     clear hb4
     obtain ⟨w5, hw5⟩ : ∃ w5, w5 = w4.alloc (.cells #[.int .i64 β.num, .int .i64 β.den] 45) := ⟨_, rfl⟩
     obtain ⟨Y, hY⟩ : ∃ Y, Y = w4.heap.size := ⟨_, rfl⟩
     rw [← hw5, ← hY] at s0 s1 sY hF; rw [← hw5] at hb5; rw [← hY] at sZ; rw [← hw5, ← hY]; clear hw5 hY
     go_wp2
     go_meet
     exact ⟨rfl, _, rfl, Lib.hid sZ, Lib.hid hF, hb5⟩
    ·have hb5 : Below wa.heap.size wa ((w4.setCell ⟨wa.heap.size, 0, none⟩ (.int .i64 β.num)).setCell ⟨wa.heap.size, 1, none⟩ (.int .i64 β.den)) := ((((Below.refl _ _).drew.alloc (Nat.le_refl _) _).trans (hb4.mono (by simp))).setCell (p := ⟨wa.heap.size, 0, none⟩) (Nat.le_refl _) _).setCell (p := ⟨wa.heap.size, 1, none⟩) (Nat.le_refl _) _
     have s0 : ((w4.setCell ⟨wa.heap.size, 0, none⟩ (.int .i64 β.num)).setCell ⟨wa.heap.size, 1, none⟩ (.int .i64 β.den)).cell? ⟨wa.heap.size, 0, none⟩ = some (.int .i64 β.num) := by rw [World.cell?_setCell_other _ _ _ _ (by simp)]; exact World.cell?_setCell_same _ _ _ q0
     have s1 : ((w4.setCell ⟨wa.heap.size, 0, none⟩ (.int .i64 β.num)).setCell ⟨wa.heap.size, 1, none⟩ (.int .i64 β.den)).cell? ⟨wa.heap.size, 1, none⟩ = some (.int .i64 β.den) := World.cell?_setCell_same _ _ _ ((World.cell?_setCell_other _ _ _ _ (by simp)).trans q1)
     have sY : wa.heap.size < ((w4.setCell ⟨wa.heap.size, 0, none⟩ (.int .i64 β.num)).setCell ⟨wa.heap.size, 1, none⟩ (.int .i64 β.den)).heap.size := by simpa [World.setCell] using q4
     have sZ : wa.heap.size ≤ wa.heap.size := Nat.le_refl _
     have hF : FrRow ((w4.setCell ⟨wa.heap.size, 0, none⟩ (.int .i64 β.num)).setCell ⟨wa.heap.size, 1, none⟩ (.int .i64 β.den)) wa.heap.size 1 (fun _ => β) := fr_of q5 _
     clear hb4 q0 q1 q2 q3 q4 q5
     obtain ⟨w5, hw5⟩ : ∃ w5, w5 = ((w4.setCell ⟨wa.heap.size, 0, none⟩ (.int .i64 β.num)).setCell ⟨wa.heap.size, 1, none⟩ (.int .i64 β.den)) := ⟨_, rfl⟩
     rw [← hw5] at hb5 s0 s1 sY hF; rw [← hw5]; clear hw5
     go_wp2
     go_meet
     exact ⟨rfl, _, rfl, Lib.hid sZ, Lib.hid hF, hb5⟩
   case rest =>
    clear c3 a0 a1 cX cr
    obtain ⟨rfl, Y, rfl, hYle, hFY, hbc⟩ := hcut
    have zY := hYle.out
    have zc := hFY.out.lt
    have hTc := HTq.out.up hbc
    have hbB := hbel.trans (hbc.mono (by omega))
    have c3 := hTc.c3
    rw [e3] at c3
    have hR := Lib.hid (hTc.right hm0)
    have a0 := hR.out.num hr
    have a1 := hR.out.den hr
    have a2 := hR.out.frozen (r * 2)
    have a3 := hR.out.frozen (r * 2 + 1)
    have cr := hR.out.lt
    have cX := hTc.lt
    have x0 := hFY.out.num (j := 0) (by omega)
    have x1 := hFY.out.den (j := 0) (by omega)
    simp only [Nat.zero_mul, Nat.zero_add] at x0 x1
    have hk6 := ((Kw.refl L.gr (L.gr + 1) wc).set (p := ⟨L.gr, r * 2, none⟩) (Nat.le_refl _) (Nat.lt_succ_self _) (.int .i64 β.num)).set (p := ⟨L.gr, r * 2 + 1, none⟩) (Nat.le_refl _) (Nat.lt_succ_self _) (.int .i64 β.den)
    have hT6 := hTc.rowB HG.out hm0 hk6 (hR.out.set r β)
    have HT6 := Lib.hid hT6
    have HY6 := Lib.hid (hk6.row hFY.out (by omega))
    have Hk6 := Lib.hid hk6
    clear hTc hT6 hk6
    go_wp2_with fail
    refine wp_region_G 7 (fun w' => w'.cell? ⟨X, 3, none⟩ = some (.slice (some ⟨L.gr, 0, none⟩) m L.c3) ∧ w'.cell? ⟨Y, 0, none⟩ = some (.int .i64 β.num) ∧ w'.cell? ⟨Y, 1, none⟩ = some (.int .i64 β.den)) (by kernel_rfl) (⟨c3, x0, x1⟩) ?_
    intro hG0
    refine wpS1 0 hG0 ?_; intro hG1; clear hG0
    refine wpS1 1 hG1 ?_; intro hG2; clear hG1
    refine wpS1 2 hG2 ?_; intro hG3; clear hG2
    refine wpS2 3 hG3 ?_; intro hG4; clear hG3
    refine wpS1 4 hG4 ?_; intro hG5; clear hG4
    refine wpS2 5 hG5 ?_; intro hG6; clear hG5
    refine wpS1 6 hG6 ?_; intro hG7; clear hG6
    refine wpAnyG_ready (rs := [7]) (by kernel_rfl) (by simp) (AllG.cons rfl hG7 (fun K hK => ?_) AllG.nil)
    (go_simp)
    refine hK.out _ _ (Or.inl rfl) (fun hG8 => wpN ?_); clear hK hG7
    refine wpAnyG_done (by kernel_rfl) ?_ _; clear hG8
    obtain ⟨w6, hw6⟩ : ∃ w6, w6 = ((wc.setCell ⟨L.gr, r * 2, none⟩ (.int .i64 β.num)).setCell ⟨L.gr, r * 2 + 1, none⟩ (.int .i64 β.den)).drew := ⟨_, rfl⟩
    rw [← hw6]
    have HT6' := Lib.hid (show TbM w6 X m n N L (updB (updA T r q) (updF T.b r β)) from hw6 ▸ HT6.out.up (Below.refl _ _).drew)
    have HY6' := Lib.hid (show FrRow w6 Y 1 (fun _ => β) from hw6 ▸ FrRow.up HY6.out (Below.refl _ _).drew)
    have hb6 : Below B w w6 := hw6 ▸ ((hbB.setCell (p := ⟨L.gr, r * 2, none⟩) l2.1 _).setCell (p := ⟨L.gr, r * 2 + 1, none⟩) l2.1 _).drew
    have z6 : w.heap.size < w6.heap.size := by have := HY6'.out.lt; omega
    have Y6 := HY6'.out.lt
    clear hw6 HT6 HY6 Hk6
    obtain ⟨T3, hT3⟩ : ∃ T3 : Nat → TB, T3 = fun i => updA' T (fun i' => if i' = r then q else if i' < i then (fun j => T.a i' j - T.a i' k * q j) else T.a i') (fun i' => if i' = r then β else if i' < i then T.b i' - T.a i' k * β else T.b i') := ⟨_, rfl⟩
    have HT3 := Lib.hid hT3
    clear hT3 c3 a0 a1 a2 a3 x0 x1 hR cr cX
    have c2 := HT6'.out.c2
    rw [e2] at c2
    have cX := HT6'.out.lt
    go_wp2
    clear c2
    go_loopw [79] (fun i wr => ∃ i' : Nat, i' ≤ m ∧ i = .int .i64 i' ∧ Hid (TbM wr X m n N L (T3 i')) ∧ Hid (FrRow wr Y 1 (fun _ => β)) ∧ Hid (∀ j, j < i' → j ≠ r → ElOK N (T.a j) q (T.a j k) ∧ Rep (T.a j k * β) ∧ Rep (T.b j - T.a j k * β)) ∧ Hid (w.heap.size < wr.heap.size) ∧ Below B w wr) (fun i _ => m - (intOf i).toNat)
    case atStart => exact ⟨0, by omega, rfl, Lib.hid (HT6'.out.congr (by rw [HT3.out]; rfl) (fun i hi => by rw [HT3.out]; show updF T.b r β i = (if i = r then β else if i < 0 then _ else T.b i); unfold updF; split; rfl; rw [if_neg (by omega)]) (fun i hi => by rw [HT3.out]; rfl) (fun j hj => by rw [HT3.out]; rfl) (fun i hi j hj => by rw [HT3.out]; show (if i = r then q else T.a i) j = (if i = r then q else if i < 0 then _ else T.a i) j; split; rfl; rw [if_neg (by omega)])), HY6', Lib.hid (fun j hj => absurd hj (by omega)), Lib.hid z6, hb6⟩
    case round =>
     obtain ⟨i', hi', rfl, hT4, hFY4, hok4, hz4, hbel4⟩ := hrel
     have hz5 := hz4.out
     have c2 := hT4.out.c2
     rw [e2] at c2
     have cX := hT4.out.lt
     by_cases hlt : i' < m
     ·have i0 : (0 : Int) ≤ (i' : Int) := by omega
      have i1 : (i' : Int) < (m : Int) := by omega
      by_cases her : i' = r
      ·have e1 : ((i' : Int) == (r : Int)) = true := by simp [her]
       have HT5 := Lib.hid (show TbM wr X m n N L (T3 (i' + 1)) from hT4.out.congr (by rw [HT3.out]; rfl) (fun i hi => by rw [HT3.out]; show (if i = r then β else if i < i' then _ else _) = (if i = r then β else if i < i' + 1 then _ else _); by_cases e : i = r; (rw [if_pos e, if_pos e]); (rw [if_neg e, if_neg e]; by_cases e2 : i < i'; (rw [if_pos e2, if_pos (by omega)]); (rw [if_neg e2, if_neg (by omega)]))) (fun i hi => by rw [HT3.out]; rfl) (fun j hj => by rw [HT3.out]; rfl) (fun i hi j hj => by rw [HT3.out]; show (if i = r then q else if i < i' then _ else _) j = (if i = r then q else if i < i' + 1 then _ else _) j; by_cases e : i = r; (rw [if_pos e, if_pos e]); (rw [if_neg e, if_neg e]; by_cases e2 : i < i'; (rw [if_pos e2, if_pos (by omega)]); (rw [if_neg e2, if_neg (by omega)]))))
       have Her := Lib.hid her
       clear her
       go_wp2
       go_roundw
       case rel => exact ⟨i' + 1, by omega, by go_num, HT5, hFY4, Lib.hid (fun j hj hne => hok4.out j (by have := Her.out; omega) hne), hz4, hbel4⟩
       case measure => simp [intOf]; omega
      have e1 : ((i' : Int) == (r : Int)) = false := by simp; omega
      have hTa : (T3 i').a i' = T.a i' := by rw [HT3.out]; show (if i' = r then q else if i' < i' then _ else T.a i') = _; rw [if_neg her, if_neg (by omega)]
      have hTb : (T3 i').b i' = T.b i' := by rw [HT3.out]; show (if i' = r then β else if i' < i' then _ else T.b i') = _; rw [if_neg her, if_neg (by omega)]
      have hTr : (T3 i').a r = q := by rw [HT3.out]; show (if r = r then q else _) = _; rw [if_pos rfl]
      have hTbr : (T3 i').b r = β := by rw [HT3.out]; show (if r = r then β else _) = _; rw [if_pos rfl]
      have hTi := Lib.hid (show FrRow wr (L.rb i') N (T.a i') from hTa ▸ hT4.out.rows i' hlt)
      have hTrr := Lib.hid (show FrRow wr (L.rb r) N q from hTr ▸ hT4.out.rows r hr)
      have hne := HG.out.inj i' r hlt hr
      have hne2 : L.rb i' ≠ L.rb r := fun e => her (hne e)
      have a2 := (hT4.out.top hm0).cell hlt
      have cg := (hT4.out.top hm0).lt
      obtain ⟨γ, hγ⟩ : ∃ γ, T.a i' k = γ := ⟨_, rfl⟩
      have a3 := hTi.out.num hk
      have a4 := hTi.out.den hk
      rw [hγ] at a3 a4
      have ci := hTi.out.lt
      have hrγ : Rep γ := hγ ▸ Hs.out.a i' hlt k hk
      have Hγ := Lib.hid hγ
      have Her := Lib.hid her
      have Hne2 := Lib.hid hne2
      have HTb := Lib.hid hTb
      have HTbr := Lib.hid hTbr
      have hbF : Below wr.heap.size wr (wr.alloc (.cells #[.int .i64 γ.num, .int .i64 γ.den] 45)) := (Below.refl _ _).alloc (Nat.le_refl _) _
      have KE := Lib.hid (elim_any (T.a i') q γ N (L.rb i') (L.rb r) (L.cp i') (L.cp r) (wr.alloc (.cells #[.int .i64 γ.num, .int .i64 γ.den] 45)).drew hsm.1 ((hTi.out.up hbF).up (Below.refl _ _).drew) ((hTrr.out.up hbF).up (Below.refl _ _).drew) hne2 hrγ (fun j hj => Hs.out.a i' hlt j hj) (fun j hj => hok.out j hj))
      have HF := Lib.hid (fr_new wr γ)
      clear hγ her hne hne2 hTa hTr hTb hTbr hrγ
      by_cases hE : ElOK N (T.a i') q γ
      case neg =>
       have HE := Lib.hid hE
       clear hE
       go_wp2_with fail
       refine wp_region_G 9 (fun w' => ∀ b o, w'.cell? ⟨b, o, none⟩ = if b < wr.heap.size + 1 then (wr.alloc (.cells #[.int .i64 γ.num, .int .i64 γ.den] 45)).cell? ⟨b, o, none⟩ else hidC w' b o) (by kernel_rfl) (cif (B := wr.heap.size + 1) (W := wr.alloc (.cells #[.int .i64 γ.num, .int .i64 γ.den] 45)) (Below.refl _ _).drew) ?_
       intro hG0
       refine wpS1 0 hG0 ?_; intro hG1; clear hG0
       refine wpS1 1 hG1 ?_; intro hG2; clear hG1
       refine wpS1 2 hG2 ?_; intro hG3; clear hG2
       refine wpS2 3 hG3 ?_; intro hG4; clear hG3
       refine wpS1 4 hG4 ?_; intro hG5; clear hG4
       refine wpS1 5 hG5 ?_; intro hG6; clear hG5
       refine wpS2 6 hG6 ?_; intro hG7; clear hG6
       refine wpS1 7 hG7 ?_; intro hG8; clear hG7
       refine wpS2 8 hG8 ?_; intro hG9; clear hG8
       refine wpAnyG_ready (rs := [9]) (by kernel_rfl) (by simp) (AllG.cons rfl hG9 (fun K hK => ?_) AllG.nil)
       (go_simp; go_at_call 115; refine KE.out.mono ?_; rintro e w4 ⟨hret, hkw⟩; obtain rfl := elret_no HE.out hret)
       refine hK.out _ _ (Or.inl rfl) (fun hG10 => wpN ?_); clear hK hG9
       refine wpS1 10 hG10 ?_; intro hG11; clear hG10
       refine wpAnyG_done (by kernel_rfl) ?_ _; clear hG11
       have Hb6 := Lib.hid (hbel4.trans ((hbF.drew.mono (show B ≤ wr.heap.size by omega)).trans (hkw.below (by have := HG.out.lr i' hlt; exact this) (by show B ≤ (World.alloc _ _).heap.size; simp; omega))))
       go_wp2
       go_ret
       exact ⟨.inr ⟨rfl, fun h => HE.out fun j hj => by have := h.pa i' hlt Her.out j hj; rw [Hγ.out, Hpe.out, ← Hq.out j] at this; exact this⟩, Hb6.out⟩
      have HE := Lib.hid hE
      clear hE
      go_wp2_with fail
      refine wp_region_G 9 (fun w' => ∀ b o, w'.cell? ⟨b, o, none⟩ = if b < wr.heap.size + 1 then (wr.alloc (.cells #[.int .i64 γ.num, .int .i64 γ.den] 45)).cell? ⟨b, o, none⟩ else hidC w' b o) (by kernel_rfl) (cif (B := wr.heap.size + 1) (W := wr.alloc (.cells #[.int .i64 γ.num, .int .i64 γ.den] 45)) (Below.refl _ _).drew) ?_
      intro hG0
      refine wpS1 0 hG0 ?_; intro hG1; clear hG0
      refine wpS1 1 hG1 ?_; intro hG2; clear hG1
      refine wpS1 2 hG2 ?_; intro hG3; clear hG2
      refine wpS2 3 hG3 ?_; intro hG4; clear hG3
      refine wpS1 4 hG4 ?_; intro hG5; clear hG4
      refine wpS1 5 hG5 ?_; intro hG6; clear hG5
      refine wpS2 6 hG6 ?_; intro hG7; clear hG6
      refine wpS1 7 hG7 ?_; intro hG8; clear hG7
      refine wpS2 8 hG8 ?_; intro hG9; clear hG8
      refine wpAnyG_ready (rs := [9]) (by kernel_rfl) (by simp) (AllG.cons rfl hG9 (fun K hK => ?_) AllG.nil)
      (go_simp; go_at_call 115; refine KE.out.mono ?_; rintro e w4 ⟨hret, hkw⟩; obtain ⟨rfl, hrow4⟩ := elret_ok HE.out hret)
      refine hK.out _ _ (Or.inl rfl) (fun hG10 => wpN ?_); clear hK hG9
      refine wpS1 10 hG10 ?_; intro hG11; clear hG10
      refine wpAnyG_done (by kernel_rfl) ?_ _; clear hG11
      have kz := hkw.size
      have ri := Htl.out.2.2.2 i' hlt
      have kz' : wr.heap.size + 1 ≤ w4.heap.size := Nat.le_trans (Nat.le_of_eq (World.size_alloc wr (.cells #[.int .i64 γ.num, .int .i64 γ.den] 45)).symm) hkw.size
      have hT5 := ((hT4.out.up hbF).up (Below.refl _ _).drew).rowA HG.out hlt hkw hrow4
      have HT5 := Lib.hid hT5
      have HY5 := Lib.hid (hkw.row ((hFY4.out.up hbF).up (Below.refl _ _).drew) (by omega))
      have HF5 := Lib.hid (hkw.row (FrRow.up HF.out (Below.refl _ _).drew) (by omega))
      have hbel5 : Below B w w4 := hbel4.trans ((hbF.drew.mono (show B ≤ wr.heap.size by omega)).trans (hkw.below (by have := HG.out.lr i' hlt; exact this) (by show B ≤ (World.alloc _ _).heap.size; simp; omega)))
      have c3 := hT5.c3
      rw [e3] at c3
      have cX5 := hT5.lt
      have hR5 := Lib.hid (hT5.right hm0)
      have b0 := hR5.out.num hlt
      have b1 := hR5.out.den hlt
      have b2 := hR5.out.num hr
      have b3 := hR5.out.den hr
      have hTb5 : (updA (T3 i') i' fun j => T.a i' j - γ * q j).b i' = T.b i' := HTb.out
      have hTbr5 : (updA (T3 i') i' fun j => T.a i' j - γ * q j).b r = β := HTbr.out
      rw [hTb5] at b0 b1
      rw [hTbr5] at b2 b3
      have cr5 := hR5.out.lt
      have f0 := FrRow.num HF5.out (j := 0) (by omega)
      have f1 := FrRow.den HF5.out (j := 0) (by omega)
      simp only [Nat.zero_mul, Nat.zero_add] at f0 f1
      have gF : wr.heap.size < w4.heap.size := by omega
      have KL := Lib.hid (fun wx => less_any (T.b i') γ β wx (Hs.out.b i' hlt) (Hγ.out ▸ Hs.out.a i' hlt k hk) Hpb.out)
      have kk := KL.out
      unfold RetFE at kk
      clear hT5 hrow4 hkw KE hTi hTrr c2 a2 a3 a4 hbF hTb5 hTbr5 HF
      by_cases hL : Rep (γ * β) ∧ Rep (T.b i' - γ * β)
      case neg =>
       have HL := Lib.hid hL
       rw [lsF_no hL] at kk
       simp only [errV_5] at kk
       have K5 := Lib.hid kk
       clear kk hL KL
       go_wp2_with fail
       refine wp_region_G 25 (fun w' => ∀ b o, w'.cell? ⟨b, o, none⟩ = if b < w4.heap.size then w4.cell? ⟨b, o, none⟩ else hidC w' b o) (by kernel_rfl) (cif (B := w4.heap.size) (W := w4) (Below.refl _ _).drew) ?_
       intro hG0
       refine wpS1 0 hG0 ?_; intro hG1; clear hG0
       refine wpS1 1 hG1 ?_; intro hG2; clear hG1
       refine wpS1 2 hG2 ?_; intro hG3; clear hG2
       refine wpS2 3 hG3 ?_; intro hG4; clear hG3
       refine wpS1 4 hG4 ?_; intro hG5; clear hG4
       refine wpS1 5 hG5 ?_; intro hG6; clear hG5
       refine wpS1 6 hG6 ?_; intro hG7; clear hG6
       refine wpS1 7 hG7 ?_; intro hG8; clear hG7
       refine wpS2 8 hG8 ?_; intro hG9; clear hG8
       refine wpS1 9 hG9 ?_; intro hG10; clear hG9
       refine wpS1 10 hG10 ?_; intro hG11; clear hG10
       refine wpS2 11 hG11 ?_; intro hG12; clear hG11
       refine wpS2 12 hG12 ?_; intro hG13; clear hG12
       refine wpS1 13 hG13 ?_; intro hG14; clear hG13
       refine wpS1 14 hG14 ?_; intro hG15; clear hG14
       refine wpS1 15 hG15 ?_; intro hG16; clear hG15
       refine wpS2 16 hG16 ?_; intro hG17; clear hG16
       refine wpS1 17 hG17 ?_; intro hG18; clear hG17
       refine wpS1 18 hG18 ?_; intro hG19; clear hG18
       refine wpS2 19 hG19 ?_; intro hG20; clear hG19
       refine wpAnyG_ready (rs := [20]) (by kernel_rfl) (by simp) (AllG.cons rfl hG20 (fun K hK => ?_) AllG.nil)
       (go_simp; go_at_call 116; refine (K5.out _).mono ?_; rintro e w5 ⟨rfl, hb5⟩; have v0 := (hR5.out.up ((Below.refl _ _).drew.trans hb5)).num hlt; have v1 := (hR5.out.up ((Below.refl _ _).drew.trans hb5)).den hlt; have v2 := (hR5.out.up ((Below.refl _ _).drew.trans hb5)).frozen (i' * 2); have v3 := (hR5.out.up ((Below.refl _ _).drew.trans hb5)).frozen (i' * 2 + 1); have v4 := (hR5.out.up ((Below.refl _ _).drew.trans hb5)).lt)
       refine hK.out _ _ (Or.inr (cif ((Below.refl _ _).drew.trans hb5))) (fun hG21 => wpN ?_); clear hK hG20
       refine wpS1 21 hG21 ?_; intro hG22; clear hG21
       refine wpS1 22 hG22 ?_; intro hG23; clear hG22
       refine wpS1 23 hG23 ?_; intro hG24; clear hG23
       refine wpS1 24 hG24 ?_; intro hG25; clear hG24
       refine wpAnyG_ready (rs := [25]) (by kernel_rfl) (by simp) (AllG.cons rfl hG25 (fun K hK => ?_) AllG.nil)
       (go_simp)
       refine hK.out _ _ (Or.inl rfl) (fun hG26 => wpN ?_); clear hK hG25
       refine wpS1 26 hG26 ?_; intro hG27; clear hG26
       refine wpAnyG_done (by kernel_rfl) ?_ _; clear hG27
       have Hb6 := Lib.hid (((hbel5.trans (((Below.refl _ _).drew.trans hb5).mono (show B ≤ w4.heap.size by omega))).setCell (p := ⟨L.gr, i' * 2, none⟩) l2.1 (.int .i64 0)).setCell (p := ⟨L.gr, i' * 2 + 1, none⟩) l2.1 (.int .i64 0))
       go_wp2
       go_ret
       exact ⟨.inr ⟨rfl, fun h => HL.out (by have := h.pb i' hlt Her.out; rw [Hγ.out, Hpe.out, Hβ.out] at this; exact this)⟩, Hb6.out⟩
      have HL := Lib.hid hL
      rw [lsF_ok hL.1 hL.2] at kk
      simp only [errV_0] at kk
      obtain ⟨x, hx⟩ : ∃ x, T.b i' - γ * β = x := ⟨_, rfl⟩
      rw [hx] at kk
      have Hx := Lib.hid hx
      have K5 := Lib.hid kk
      clear kk hL hx KL
      go_wp2_with fail
      refine wp_region_G 25 (fun w' => ∀ b o, w'.cell? ⟨b, o, none⟩ = if b < w4.heap.size then w4.cell? ⟨b, o, none⟩ else hidC w' b o) (by kernel_rfl) (cif (B := w4.heap.size) (W := w4) (Below.refl _ _).drew) ?_
      intro hG0
      refine wpS1 0 hG0 ?_; intro hG1; clear hG0
      refine wpS1 1 hG1 ?_; intro hG2; clear hG1
      refine wpS1 2 hG2 ?_; intro hG3; clear hG2
      refine wpS2 3 hG3 ?_; intro hG4; clear hG3
      refine wpS1 4 hG4 ?_; intro hG5; clear hG4
      refine wpS1 5 hG5 ?_; intro hG6; clear hG5
      refine wpS1 6 hG6 ?_; intro hG7; clear hG6
      refine wpS1 7 hG7 ?_; intro hG8; clear hG7
      refine wpS2 8 hG8 ?_; intro hG9; clear hG8
      refine wpS1 9 hG9 ?_; intro hG10; clear hG9
      refine wpS1 10 hG10 ?_; intro hG11; clear hG10
      refine wpS2 11 hG11 ?_; intro hG12; clear hG11
      refine wpS2 12 hG12 ?_; intro hG13; clear hG12
      refine wpS1 13 hG13 ?_; intro hG14; clear hG13
      refine wpS1 14 hG14 ?_; intro hG15; clear hG14
      refine wpS1 15 hG15 ?_; intro hG16; clear hG15
      refine wpS2 16 hG16 ?_; intro hG17; clear hG16
      refine wpS1 17 hG17 ?_; intro hG18; clear hG17
      refine wpS1 18 hG18 ?_; intro hG19; clear hG18
      refine wpS2 19 hG19 ?_; intro hG20; clear hG19
      refine wpAnyG_ready (rs := [20]) (by kernel_rfl) (by simp) (AllG.cons rfl hG20 (fun K hK => ?_) AllG.nil)
      (go_simp; go_at_call 116; refine (K5.out _).mono ?_; rintro e w5 ⟨rfl, hb5⟩; have v0 := (hR5.out.up ((Below.refl _ _).drew.trans hb5)).num hlt; have v1 := (hR5.out.up ((Below.refl _ _).drew.trans hb5)).den hlt; have v2 := (hR5.out.up ((Below.refl _ _).drew.trans hb5)).frozen (i' * 2); have v3 := (hR5.out.up ((Below.refl _ _).drew.trans hb5)).frozen (i' * 2 + 1); have v4 := (hR5.out.up ((Below.refl _ _).drew.trans hb5)).lt)
      refine hK.out _ _ (Or.inr (cif ((Below.refl _ _).drew.trans hb5))) (fun hG21 => wpN ?_); clear hK hG20
      refine wpS1 21 hG21 ?_; intro hG22; clear hG21
      refine wpS1 22 hG22 ?_; intro hG23; clear hG22
      refine wpS1 23 hG23 ?_; intro hG24; clear hG23
      refine wpS1 24 hG24 ?_; intro hG25; clear hG24
      refine wpAnyG_ready (rs := [25]) (by kernel_rfl) (by simp) (AllG.cons rfl hG25 (fun K hK => ?_) AllG.nil)
      (go_simp)
      refine hK.out _ _ (Or.inl rfl) (fun hG26 => wpN ?_); clear hK hG25
      refine wpS1 26 hG26 ?_; intro hG27; clear hG26
      refine wpAnyG_done (by kernel_rfl) ?_ _; clear hG27
      have hb45 : Below w4.heap.size w4 w5 := (Below.refl _ _).drew.trans hb5
      have Hb6 := Lib.hid (((hbel5.trans (hb45.mono (show B ≤ w4.heap.size by omega))).setCell (p := ⟨L.gr, i' * 2, none⟩) l2.1 (.int .i64 x.num)).setCell (p := ⟨L.gr, i' * 2 + 1, none⟩) l2.1 (.int .i64 x.den))
      have hk6 := ((Kw.refl L.gr (L.gr + 1) w5).set (p := ⟨L.gr, i' * 2, none⟩) (Nat.le_refl _) (Nat.lt_succ_self _) (.int .i64 x.num)).set (p := ⟨L.gr, i' * 2 + 1, none⟩) (Nat.le_refl _) (Nat.lt_succ_self _) (.int .i64 x.den)
      have hT6 := (HT5.out.up hb45).rowB HG.out hm0 hk6 ((hR5.out.up hb45).set i' x)
      have HT6x := Lib.hid (show TbM _ X m n N L (T3 (i' + 1)) from hT6.congr (by rw [HT3.out]; rfl) (fun i hi => by rw [HT3.out]; show updF (fun i0 => if i0 = r then β else if i0 < i' then T.b i0 - T.a i0 k * β else T.b i0) i' x i = (if i = r then β else if i < i' + 1 then T.b i - T.a i k * β else T.b i); unfold updF; by_cases e : i = i'; (rw [if_pos e, if_neg (by have := Her.out; omega), if_pos (by omega), e, Hγ.out, Hx.out]); (rw [if_neg e]; dsimp only; by_cases e3 : i = r; (rw [if_pos e3, if_pos e3]); (rw [if_neg e3, if_neg e3]; by_cases e2 : i < i'; (rw [if_pos e2, if_pos (by omega)]); (rw [if_neg e2, if_neg (by omega)])))) (fun i hi => by rw [HT3.out]; rfl) (fun j hj => by rw [HT3.out]; rfl) (fun i hi j hj => by rw [HT3.out]; show (if i = i' then (fun j => T.a i' j - γ * q j) else (if i = r then q else if i < i' then (fun j => T.a i j - T.a i k * q j) else T.a i)) j = (if i = r then q else if i < i' + 1 then (fun j => T.a i j - T.a i k * q j) else T.a i) j; by_cases e : i = i'; (rw [if_pos e, if_neg (by have := Her.out; omega), if_pos (by omega), e, Hγ.out]); (rw [if_neg e]; by_cases e3 : i = r; (rw [if_pos e3, if_pos e3]); (rw [if_neg e3, if_neg e3]; by_cases e2 : i < i'; (rw [if_pos e2, if_pos (by omega)]); (rw [if_neg e2, if_neg (by omega)])))))
      have HY6x := Lib.hid (hk6.row (FrRow.up HY5.out hb45) (by omega))
      have Hz6 := Lib.hid (show w.heap.size < ((w5.setCell ⟨L.gr, i' * 2, none⟩ (.int .i64 x.num)).setCell ⟨L.gr, i' * 2 + 1, none⟩ (.int .i64 x.den)).heap.size by simp [World.setCell]; have := hb45.size; omega)
      have Hok6 := Lib.hid (show ∀ j, j < i' + 1 → j ≠ r → ElOK N (T.a j) q (T.a j k) ∧ Rep (T.a j k * β) ∧ Rep (T.b j - T.a j k * β) from fun j hj hne => by rcases Nat.lt_succ_iff_lt_or_eq.1 hj with e | rfl; exact hok4.out j e hne; rw [Hγ.out]; exact ⟨HE.out, HL.out.1, HL.out.2⟩)
      clear hT6 hk6 hb45 hR5
      go_wp2
      go_roundw
      case rel => exact ⟨i' + 1, by omega, by go_num, HT6x.out, HY6x.out, Hok6, Hz6.out, Hb6.out⟩
      case measure => simp [intOf]; omega
     ·obtain rfl : m = i' := by omega
      obtain ⟨wb, rfl⟩ : ∃ wb : World, wb = wr := ⟨_, rfl⟩
      have hN0 : 0 < N := by omega
      have hTc := Lib.hid (show FrRow wb L.gc N T.c from (show (T3 m).c = T.c by rw [HT3.out]; rfl) ▸ hT4.out.goal hN0)
      have hTrr := Lib.hid (show FrRow wb (L.rb r) N q from (show (T3 m).a r = q by rw [HT3.out]; show (if r = r then q else _) = _; rw [if_pos rfl]) ▸ hT4.out.rows r hr)
      have hTbr : (T3 m).b r = β := by rw [HT3.out]; show (if r = r then β else _) = _; rw [if_pos rfl]
      have HTbr := Lib.hid hTbr
      have hTz : (T3 m).z = T.z := by rw [HT3.out]; rfl
      have HTz := Lib.hid hTz
      obtain ⟨δ, hδ⟩ : ∃ δ, T.c k = δ := ⟨_, rfl⟩
      have c5 := hT4.out.c5
      rw [e5] at c5
      have a3 := hTc.out.num hk
      have a4 := hTc.out.den hk
      rw [hδ] at a3 a4
      have gc := hTc.out.lt
      have hrδ : Rep δ := hδ ▸ Hs.out.c k hk
      have Hδ := Lib.hid hδ
      have hbF : Below wb.heap.size wb (wb.alloc (.cells #[.int .i64 δ.num, .int .i64 δ.den] 45)) := (Below.refl _ _).alloc (Nat.le_refl _) _
      have hncr := HG.out.nc r hr
      have KE := Lib.hid (elim_any T.c q δ N L.gc (L.rb r) L.c5 (L.cp r) (wb.alloc (.cells #[.int .i64 δ.num, .int .i64 δ.den] 45)).drew hsm.1 ((hTc.out.up hbF).up (Below.refl _ _).drew) ((hTrr.out.up hbF).up (Below.refl _ _).drew) (fun e => hncr e.symm) hrδ (fun j hj => Hs.out.c j hj) (fun j hj => hok.out j hj))
      have HF := Lib.hid (fr_new wb δ)
      have Hrδ := Lib.hid hrδ
      clear hδ hTbr hTz hrδ hncr c2
      by_cases hE : ElOK N T.c q δ
      case neg =>
       have HE := Lib.hid hE
       clear hE
       go_wp2_with fail
       refine wp_region_G 6 (fun w' => ∀ b o, w'.cell? ⟨b, o, none⟩ = if b < wb.heap.size + 1 then (wb.alloc (.cells #[.int .i64 δ.num, .int .i64 δ.den] 45)).cell? ⟨b, o, none⟩ else hidC w' b o) (by kernel_rfl) (cif (B := wb.heap.size + 1) (W := wb.alloc (.cells #[.int .i64 δ.num, .int .i64 δ.den] 45)) (Below.refl _ _).drew) ?_
       intro hG0
       refine wpS1 0 hG0 ?_; intro hG1; clear hG0
       refine wpS1 1 hG1 ?_; intro hG2; clear hG1
       refine wpS1 2 hG2 ?_; intro hG3; clear hG2
       refine wpS2 3 hG3 ?_; intro hG4; clear hG3
       refine wpS1 4 hG4 ?_; intro hG5; clear hG4
       refine wpS2 5 hG5 ?_; intro hG6; clear hG5
       refine wpAnyG_ready (rs := [6]) (by kernel_rfl) (by simp) (AllG.cons rfl hG6 (fun K hK => ?_) AllG.nil)
       (go_simp; go_at_call 115; refine KE.out.mono ?_; rintro e w4 ⟨hret, hkw⟩; obtain rfl := elret_no HE.out hret)
       refine hK.out _ _ (Or.inl rfl) (fun hG7 => wpN ?_); clear hK hG6
       refine wpS1 7 hG7 ?_; intro hG8; clear hG7
       refine wpAnyG_done (by kernel_rfl) ?_ _; clear hG8
       have Hb6 := Lib.hid (hbel4.trans ((hbF.drew.mono (show B ≤ wb.heap.size by omega)).trans (hkw.below (l5) (by show B ≤ (World.alloc _ _).heap.size; simp; omega))))
       go_wp2
       go_ret
       exact ⟨.inr ⟨rfl, fun h => HE.out fun j hj => by have := h.pc j hj; rw [Hδ.out, Hpe.out, ← Hq.out j] at this; exact this⟩, Hb6.out⟩
      have HE := Lib.hid hE
      clear hE
      go_wp2_with fail
      refine wp_region_G 6 (fun w' => ∀ b o, w'.cell? ⟨b, o, none⟩ = if b < wb.heap.size + 1 then (wb.alloc (.cells #[.int .i64 δ.num, .int .i64 δ.den] 45)).cell? ⟨b, o, none⟩ else hidC w' b o) (by kernel_rfl) (cif (B := wb.heap.size + 1) (W := wb.alloc (.cells #[.int .i64 δ.num, .int .i64 δ.den] 45)) (Below.refl _ _).drew) ?_
      intro hG0
      refine wpS1 0 hG0 ?_; intro hG1; clear hG0
      refine wpS1 1 hG1 ?_; intro hG2; clear hG1
      refine wpS1 2 hG2 ?_; intro hG3; clear hG2
      refine wpS2 3 hG3 ?_; intro hG4; clear hG3
      refine wpS1 4 hG4 ?_; intro hG5; clear hG4
      refine wpS2 5 hG5 ?_; intro hG6; clear hG5
      refine wpAnyG_ready (rs := [6]) (by kernel_rfl) (by simp) (AllG.cons rfl hG6 (fun K hK => ?_) AllG.nil)
      (go_simp; go_at_call 115; refine KE.out.mono ?_; rintro e w4 ⟨hret, hkw⟩; obtain ⟨rfl, hrow4⟩ := elret_ok HE.out hret)
      refine hK.out _ _ (Or.inl rfl) (fun hG7 => wpN ?_); clear hK hG6
      refine wpS1 7 hG7 ?_; intro hG8; clear hG7
      refine wpAnyG_done (by kernel_rfl) ?_ _; clear hG8
      have kz := hkw.size
      have kz' : wb.heap.size + 1 ≤ w4.heap.size := Nat.le_trans (Nat.le_of_eq (World.size_alloc wb (.cells #[.int .i64 δ.num, .int .i64 δ.den] 45)).symm) hkw.size
      have hT5 := ((hT4.out.up hbF).up (Below.refl _ _).drew).rowC HG.out hN0 hkw hrow4
      have HT5 := Lib.hid hT5
      have HY4 := Lib.hid (hkw.row ((hFY4.out.up hbF).up (Below.refl _ _).drew) (by omega))
      have HY4 : Hid (FrRow w4 Y 1 (fun _ => β)) := HY4
      have HF5 := Lib.hid (hkw.row (FrRow.up HF.out (Below.refl _ _).drew) (by omega))
      have hbel5 : Below B w w4 := hbel4.trans ((hbF.drew.mono (show B ≤ wb.heap.size by omega)).trans (hkw.below l5 (by show B ≤ (World.alloc _ _).heap.size; simp; omega)))
      have c3 := hT5.c3
      rw [e3] at c3
      have cX5 := hT5.lt
      have hR5 := Lib.hid (hT5.right hm0)
      have b2 := hR5.out.num hr
      have b3 := hR5.out.den hr
      have hTbr5 : (updC (T3 m) fun j => T.c j - δ * q j).b r = β := HTbr.out
      rw [hTbr5] at b2 b3
      have cr5 := hR5.out.lt
      have f0 := FrRow.num HF5.out (j := 0) (by omega)
      have f1 := FrRow.den HF5.out (j := 0) (by omega)
      simp only [Nat.zero_mul, Nat.zero_add] at f0 f1
      have gF : wb.heap.size < w4.heap.size := by omega
      have kk := fun wx => mul_any δ.num δ.den β.num β.den wx
      rw [mulF_rep Hrδ.out Hpb.out] at kk
      unfold RetFE at kk
      clear hT5 hrow4 hkw KE hTc hTrr c5 a3 a4 hbF hTbr5 HF cX gc
      by_cases hz : Rep (δ * β)
      case neg =>
       have HZ := Lib.hid hz
       rw [not_rep hz] at kk
       simp only [errV_5] at kk
       have K5 := Lib.hid kk
       clear kk hz
       go_wp2_with fail
       refine wp_region_G 8 (fun w' => ∀ b o, w'.cell? ⟨b, o, none⟩ = if b < w4.heap.size then w4.cell? ⟨b, o, none⟩ else hidC w' b o) (by kernel_rfl) (cif (B := w4.heap.size) (W := w4) (Below.refl _ _).drew) ?_
       intro hG0
       refine wpS2 0 hG0 ?_; intro hG1; clear hG0
       refine wpS1 1 hG1 ?_; intro hG2; clear hG1
       refine wpS1 2 hG2 ?_; intro hG3; clear hG2
       refine wpS1 3 hG3 ?_; intro hG4; clear hG3
       refine wpS2 4 hG4 ?_; intro hG5; clear hG4
       refine wpS1 5 hG5 ?_; intro hG6; clear hG5
       refine wpS1 6 hG6 ?_; intro hG7; clear hG6
       refine wpS2 7 hG7 ?_; intro hG8; clear hG7
       refine wpAnyG_ready (rs := [8]) (by kernel_rfl) (by simp) (AllG.cons rfl hG8 (fun K hK => ?_) AllG.nil)
       (go_simp; go_at_call 117; refine (K5.out _).mono ?_; rintro e w5 ⟨rfl, hb5⟩; have hY5 := HY4.out.up ((Below.refl _ _).drew.trans hb5); have v0 := hY5.num (j := 0) (by omega); have v1 := hY5.den (j := 0) (by omega); have v2 := hY5.frozen 0; have v3 := hY5.frozen 1; have v4 := hY5.lt; simp only [Nat.zero_mul, Nat.zero_add] at v0 v1)
       refine hK.out _ _ (Or.inl rfl) (fun hG9 => wpN ?_); clear hK hG8
       refine wpS1 9 hG9 ?_; intro hG10; clear hG9
       refine wpS1 10 hG10 ?_; intro hG11; clear hG10
       refine wpS1 11 hG11 ?_; intro hG12; clear hG11
       refine wpAnyG_ready (rs := [12]) (by kernel_rfl) (by simp) (AllG.cons rfl hG12 (fun K hK => ?_) AllG.nil)
       (go_simp)
       refine hK.out _ _ (Or.inl rfl) (fun hG13 => wpN ?_); clear hK hG12
       refine wpS1 13 hG13 ?_; intro hG14; clear hG13
       refine wpAnyG_done (by kernel_rfl) ?_ _; clear hG14
       have Hb6 := Lib.hid (((hbel5.trans (((Below.refl _ _).drew.trans hb5).mono (show B ≤ w4.heap.size by omega))).setCell (p := ⟨Y, 0, none⟩) (show B ≤ Y by omega) (.int .i64 0)).setCell (p := ⟨Y, 1, none⟩) (show B ≤ Y by omega) (.int .i64 0))
       go_wp2
       go_ret
       exact ⟨.inr ⟨rfl, fun h => HZ.out (by have := h.pz.1; rw [Hδ.out, Hpe.out, Hβ.out] at this; exact this)⟩, Hb6.out⟩
      have HZ := Lib.hid hz
      rw [rep_toF hz] at kk
      simp only [errV_0] at kk
      obtain ⟨ζ, hζ⟩ : ∃ ζ, δ * β = ζ := ⟨_, rfl⟩
      rw [hζ] at kk
      have Hζ := Lib.hid hζ
      have K5 := Lib.hid kk
      clear kk hz hζ
      go_wp2_with fail
      refine wp_region_G 8 (fun w' => ∀ b o, w'.cell? ⟨b, o, none⟩ = if b < w4.heap.size then w4.cell? ⟨b, o, none⟩ else hidC w' b o) (by kernel_rfl) (cif (B := w4.heap.size) (W := w4) (Below.refl _ _).drew) ?_
      intro hG0
      refine wpS2 0 hG0 ?_; intro hG1; clear hG0
      refine wpS1 1 hG1 ?_; intro hG2; clear hG1
      refine wpS1 2 hG2 ?_; intro hG3; clear hG2
      refine wpS1 3 hG3 ?_; intro hG4; clear hG3
      refine wpS2 4 hG4 ?_; intro hG5; clear hG4
      refine wpS1 5 hG5 ?_; intro hG6; clear hG5
      refine wpS1 6 hG6 ?_; intro hG7; clear hG6
      refine wpS2 7 hG7 ?_; intro hG8; clear hG7
      refine wpAnyG_ready (rs := [8]) (by kernel_rfl) (by simp) (AllG.cons rfl hG8 (fun K hK => ?_) AllG.nil)
      (go_simp; go_at_call 117; refine (K5.out _).mono ?_; rintro e w5 ⟨rfl, hb5⟩; have hY5 := HY4.out.up ((Below.refl _ _).drew.trans hb5); have v0 := hY5.num (j := 0) (by omega); have v1 := hY5.den (j := 0) (by omega); have v2 := hY5.frozen 0; have v3 := hY5.frozen 1; have v4 := hY5.lt; simp only [Nat.zero_mul, Nat.zero_add] at v0 v1)
      refine hK.out _ _ (Or.inl rfl) (fun hG9 => wpN ?_); clear hK hG8
      refine wpS1 9 hG9 ?_; intro hG10; clear hG9
      refine wpS1 10 hG10 ?_; intro hG11; clear hG10
      refine wpS1 11 hG11 ?_; intro hG12; clear hG11
      refine wpAnyG_ready (rs := [12]) (by kernel_rfl) (by simp) (AllG.cons rfl hG12 (fun K hK => ?_) AllG.nil)
      (go_simp)
      refine hK.out _ _ (Or.inl rfl) (fun hG13 => wpN ?_); clear hK hG12
      refine wpS1 13 hG13 ?_; intro hG14; clear hG13
      refine wpAnyG_done (by kernel_rfl) ?_ _; clear hG14
      have hb45 : Below w4.heap.size w4 w5 := (Below.refl _ _).drew.trans hb5
      obtain ⟨w6, hw6⟩ : ∃ w6, w6 = (w5.setCell ⟨Y, 0, none⟩ (.int .i64 ζ.num)).setCell ⟨Y, 1, none⟩ (.int .i64 ζ.den) := ⟨_, rfl⟩
      rw [← hw6]
      have hb56 : Below w.heap.size w5 w6 := hw6 ▸ (((Below.refl _ _).setCell (p := ⟨Y, 0, none⟩) (show w.heap.size ≤ Y by omega) _).setCell (p := ⟨Y, 1, none⟩) (show w.heap.size ≤ Y by omega) _)
      have HT6 := Lib.hid ((HT5.out.up hb45).low Htl.out hb56)
      have hF6 : FrRow w6 Y 1 (fun _ => ζ) := hw6 ▸ fr_of (H := Y) hY5 ζ
      have hbel6 : Below B w w6 := (hbel5.trans (hb45.mono (show B ≤ w4.heap.size by omega))).trans (hb56.mono (show B ≤ w.heap.size from hB))
      have x0 := hF6.num (j := 0) (by omega)
      have x1 := hF6.den (j := 0) (by omega)
      simp only [Nat.zero_mul, Nat.zero_add] at x0 x1
      have gY := hF6.lt
      have z0 := HT6.out.c6
      have z1 := HT6.out.c7
      have hTz6 : (updC (T3 m) fun j => T.c j - δ * q j).z = T.z := HTz.out
      rw [hTz6] at z0 z1
      have gX := HT6.out.lt
      have hz6 : w.heap.size < w6.heap.size := by have := hb56.size; have := hb45.size; omega
      have kk := fun wx => add_any T.z.num T.z.den ζ.num ζ.den wx
      rw [addF_rep Hs.out.z (Hζ.out ▸ HZ.out)] at kk
      unfold RetFE at kk
      clear hw6 hb5 hb45 hb56 v0 v1 v2 v3 v4 hY5 hF6 hTz6 c3 b2 b3 f0 f1 hR5 cr5 cX5 gF
      by_cases hz : Rep (T.z + ζ)
      case neg =>
       have HZ2 := Lib.hid hz
       rw [not_rep hz] at kk
       simp only [errV_5] at kk
       have K5 := Lib.hid kk
       clear kk hz
       go_wp2_with fail
       refine wp_region_G 6 (fun w' => ∀ b o, w'.cell? ⟨b, o, none⟩ = if b < w6.heap.size then w6.cell? ⟨b, o, none⟩ else hidC w' b o) (by kernel_rfl) (cif (B := w6.heap.size) (W := w6) (Below.refl _ _).drew) ?_
       intro hG0
       refine wpS1 0 hG0 ?_; intro hG1; clear hG0
       refine wpS1 1 hG1 ?_; intro hG2; clear hG1
       refine wpS1 2 hG2 ?_; intro hG3; clear hG2
       refine wpS1 3 hG3 ?_; intro hG4; clear hG3
       refine wpS2 4 hG4 ?_; intro hG5; clear hG4
       refine wpS2 5 hG5 ?_; intro hG6; clear hG5
       refine wpAnyG_ready (rs := [6]) (by kernel_rfl) (by simp) (AllG.cons rfl hG6 (fun K hK => ?_) AllG.nil)
       (go_simp; go_at_call 102; refine (K5.out _).mono ?_; rintro e w7 ⟨rfl, hb7⟩; have hT7 := HT6.out.up ((Below.refl _ _).drew.trans hb7); have v0 := hT7.c6; have v1 := hT7.c7; have v2 := hT7.box.frozen 6; have v3 := hT7.box.frozen 7; have v4 := hT7.lt)
       refine hK.out _ _ (Or.inl rfl) (fun hG7 => wpN ?_); clear hK hG6
       refine wpS1 7 hG7 ?_; intro hG8; clear hG7
       refine wpS1 8 hG8 ?_; intro hG9; clear hG8
       refine wpS1 9 hG9 ?_; intro hG10; clear hG9
       refine wpS1 10 hG10 ?_; intro hG11; clear hG10
       refine wpS1 11 hG11 ?_; intro hG12; clear hG11
       refine wpAnyG_ready (rs := [12]) (by kernel_rfl) (by simp) (AllG.cons rfl hG12 (fun K hK => ?_) AllG.nil)
       (go_simp)
       refine hK.out _ _ (Or.inl rfl) (fun hG13 => wpN ?_); clear hK hG12
       refine wpS1 13 hG13 ?_; intro hG14; clear hG13
       refine wpAnyG_done (by kernel_rfl) ?_ _; clear hG14
       have Hb6 := Lib.hid (((hbel6.trans (((Below.refl _ _).drew.trans hb7).mono (show B ≤ w6.heap.size by omega))).setCell (p := ⟨X, 6, none⟩) lX (.int .i64 0)).setCell (p := ⟨X, 7, none⟩) lX (.int .i64 0))
       go_wp2
       go_ret
       exact ⟨.inr ⟨rfl, fun h => HZ2.out (by have := h.pz.2; rw [Hδ.out, Hpe.out, Hβ.out, Hζ.out] at this; exact this)⟩, Hb6.out⟩
      have HZ2 := Lib.hid hz
      rw [rep_toF hz] at kk
      simp only [errV_0] at kk
      obtain ⟨η, hη⟩ : ∃ η, T.z + ζ = η := ⟨_, rfl⟩
      rw [hη] at kk
      have Hη := Lib.hid hη
      have K5 := Lib.hid kk
      clear kk hz hη
      go_wp2_with fail
      refine wp_region_G 6 (fun w' => ∀ b o, w'.cell? ⟨b, o, none⟩ = if b < w6.heap.size then w6.cell? ⟨b, o, none⟩ else hidC w' b o) (by kernel_rfl) (cif (B := w6.heap.size) (W := w6) (Below.refl _ _).drew) ?_
      intro hG0
      refine wpS1 0 hG0 ?_; intro hG1; clear hG0
      refine wpS1 1 hG1 ?_; intro hG2; clear hG1
      refine wpS1 2 hG2 ?_; intro hG3; clear hG2
      refine wpS1 3 hG3 ?_; intro hG4; clear hG3
      refine wpS2 4 hG4 ?_; intro hG5; clear hG4
      refine wpS2 5 hG5 ?_; intro hG6; clear hG5
      refine wpAnyG_ready (rs := [6]) (by kernel_rfl) (by simp) (AllG.cons rfl hG6 (fun K hK => ?_) AllG.nil)
      (go_simp; go_at_call 102; refine (K5.out _).mono ?_; rintro e w7 ⟨rfl, hb7⟩; have hT7 := HT6.out.up ((Below.refl _ _).drew.trans hb7); have v0 := hT7.c6; have v1 := hT7.c7; have v2 := hT7.box.frozen 6; have v3 := hT7.box.frozen 7; have v4 := hT7.lt)
      refine hK.out _ _ (Or.inl rfl) (fun hG7 => wpN ?_); clear hK hG6
      refine wpS1 7 hG7 ?_; intro hG8; clear hG7
      refine wpS1 8 hG8 ?_; intro hG9; clear hG8
      refine wpS1 9 hG9 ?_; intro hG10; clear hG9
      refine wpS1 10 hG10 ?_; intro hG11; clear hG10
      refine wpS1 11 hG11 ?_; intro hG12; clear hG11
      refine wpAnyG_ready (rs := [12]) (by kernel_rfl) (by simp) (AllG.cons rfl hG12 (fun K hK => ?_) AllG.nil)
      (go_simp)
      refine hK.out _ _ (Or.inl rfl) (fun hG13 => wpN ?_); clear hK hG12
      refine wpS1 13 hG13 ?_; intro hG14; clear hG13
      refine wpAnyG_done (by kernel_rfl) ?_ _; clear hG14
      have hb67 : Below w6.heap.size w6 w7 := (Below.refl _ _).drew.trans hb7
      obtain ⟨w8, hw8⟩ : ∃ w8, w8 = (w7.setCell ⟨X, 6, none⟩ (.int .i64 η.num)).setCell ⟨X, 7, none⟩ (.int .i64 η.den) := ⟨_, rfl⟩
      rw [← hw8]
      have hk8 : Kw X (X + 1) w7 w8 := hw8 ▸ (((Kw.refl X (X + 1) w7).set (p := ⟨X, 6, none⟩) (Nat.le_refl _) (Nat.lt_succ_self _) _).set (p := ⟨X, 7, none⟩) (Nat.le_refl _) (Nat.lt_succ_self _) _)
      have hbox8 : rowGe w8 X 169 8 (tbc m n N L η) := hw8 ▸ ((hT7.box.set 6 (.int .i64 η.num)).set 7 (.int .i64 η.den)).congr (fun i hi => by rcases i with _ | _ | _ | _ | _ | _ | _ | _ | i <;> first | rfl | exact absurd hi (by omega))
      have hT8 := hT7.boxZ hk8 hbox8
      have hbel8 : Below B w w8 := hw8 ▸ (((hbel6.trans (hb67.mono (show B ≤ w6.heap.size by omega))).setCell (p := ⟨X, 6, none⟩) lX _).setCell (p := ⟨X, 7, none⟩) lX _)
      have c4 := hT8.c4
      rw [e4] at c4
      have cX8 := hT8.lt
      have hN8 := hT8.basic hm0
      have n0 := hN8.cell hr
      have n1 := hN8.frozen r
      have n2 := hN8.lt
      have hk9 := (Kw.refl L.gb (L.gb + 1) w8).set (p := ⟨L.gb, r, none⟩) (Nat.le_refl _) (Nat.lt_succ_self _) (.int .i64 k)
      have hT9 := hT8.rowN hm0 (r := r) (k := k) hk9 ((hN8.set r (.int .i64 k)).congr fun i hi => by show (if i = r then _ else _) = Value.int .i64 ((if i = r then k else _ : Nat) : Int); split <;> rfl)
      have HT9 := Lib.hid hT9
      have Hb9 := Lib.hid (hbel8.setCell (p := ⟨L.gb, r, none⟩) l2.2 (.int .i64 k))
      clear hw8 hb7 hb67 hk8 hbox8 hT7 hT8 hN8 hk9 hT9 v0 v1 v2 v3 v4 hbel8
      go_wp2
      go_ret
      refine ⟨.inl ⟨rfl, ⟨fun j hj => by rw [Hpe.out, ← Hq.out j]; exact hok.out j hj, by rw [Hpe.out, Hβ.out]; exact Hpb.out, fun i hi hne j hj => by rw [Hpe.out, ← Hq.out j]; exact (hok4.out i hi hne).1 j hj, fun i hi hne => by rw [Hpe.out, Hβ.out]; exact (hok4.out i hi hne).2, fun j hj => by rw [Hpe.out, ← Hq.out j, Hδ.out]; exact HE.out j hj, by rw [Hpe.out, Hβ.out, Hδ.out, Hζ.out]; exact ⟨Hζ.out ▸ HZ.out, HZ2.out⟩⟩, HT9.out.congr ?_ ?_ ?_ ?_ ?_⟩, Hb9.out⟩
      ·show η = T.z + T.c k * (T.b r / T.a r k)
       rw [Hpe.out, Hβ.out, Hδ.out, Hζ.out, Hη.out]
      ·intro i hi
       show (T3 m).b i = (if i = r then T.b r / T.a r k else T.b i - T.a i k * (T.b r / T.a r k))
       rw [HT3.out, Hpe.out, Hβ.out]
       show (if i = r then β else if i < m then T.b i - T.a i k * β else T.b i) = _
       rw [if_pos hi]
      ·intro i hi
       show (if i = r then k else (T3 m).B i) = (if i = r then k else T.B i)
       rw [HT3.out]
       rfl
      ·intro j hj
       show T.c j - δ * q j = T.c j - T.c k * (T.a r j / T.a r k)
       rw [Hpe.out, Hδ.out, Hq.out j]
      ·intro i hi j hj
       show (T3 m).a i j = (if i = r then T.a r j / T.a r k else T.a i j - T.a i k * (T.a r j / T.a r k))
       rw [HT3.out, Hpe.out]
       show (if i = r then q else if i < m then (fun j => T.a i j - T.a i k * q j) else T.a i) j = _
       by_cases e : i = r
       ·rw [if_pos e, if_pos e, Hq.out j]
       ·rw [if_neg e, if_neg e, if_pos hi, Hq.out j]

end Go.Proofs.YtaampjhdgeoicaaGreat

/- Texts laid together: VhD, VhE. -/
import Derived.Test.YtlkebhiaimijiaaGreatDoorBel
import Derived.Test.YtlkebhiaimijiaaGreatDoorNgE
import Derived.Test.YtlkebhiaimijiaaGreatDoorNhA
import Derived.Test.YtlkebhiaimijiaaGreatDoorNgD
namespace Go.Proofs.YtlkebhiaimijiaaGreatDoor
set_option linter.unusedSimpArgs false
set_option linter.unusedVariables false
section
open Go Go.RowKit
set_option linter.unusedVariables false

set_option maxRecDepth 20000 in
set_option maxHeartbeats 8000000 in
theorem tis_any {B X fc rc g : Nat} {t : Tsk} {p : Lies} {fa ra : Option Addr} {rb : Nat → Nat} {M : Nat → Nat → Bool} (hd : ∀ k, k < t.vars.length → 1 ≤ nth t.vars k ∧ nth t.vars k ≤ 64) (hn : t.vars.length ≤ 64) (a b : Fct) (ha : IsF t.vars a) (hb : IsF t.vars b) (w : World) (h : TblAt w B X t p fa fc ra rc g rb M) :
  Calls Tryz.prog 52 #[.pointer (some ⟨X, 0, none⟩), .agg #[.int .i64 a.1, .int .i64 a.2], .agg #[.int .i64 b.1, .int .i64 b.2]] w fun e w' => e = .returned (.bool (M (numF t.vars a) (numF t.vars b))) ∧ Below w.heap.size w w' := by
 have hd0 : ∀ k, k < t.vars.length → 0 ≤ nth t.vars k := fun k hk => by have := hd k hk; omega
 have hia := num_lt hd0 ha
 have hib := num_lt hd0 hb
 obtain ⟨W1, hW1⟩ : ∃ W1, W1 = w.alloc (.cells #[.int .i64 a.1, .int .i64 a.2] 68) := ⟨_, rfl⟩
 obtain ⟨W2, hW2⟩ : ∃ W2, W2 = W1.alloc (.cells #[.int .i64 b.1, .int .i64 b.2] 68) := ⟨_, rfl⟩
 have hz1 : W1.heap.size = w.heap.size + 1 := by rw [hW1]; simp
 have hx1 : BxI W1 w.heap.size 68 #[.int .i64 a.1, .int .i64 a.2] := by rw [hW1]; exact BxI.new _ _ _
 have hx2 : BxI W2 (w.heap.size + 1) 68 #[.int .i64 b.1, .int .i64 b.2] := by rw [hW2, ← hz1]; exact BxI.new _ _ _
 have hb12 : Below W1.heap.size W1 W2 := by rw [hW2]; exact (Below.refl _ _).alloc (Nat.le_refl _) _
 have hb1 : Below w.heap.size w W1 := by rw [hW1]; exact (Below.refl _ _).alloc (Nat.le_refl _) _
 have hb2 : Below w.heap.size w W2 := hb1.trans (hb12.mono hb1.size)
 have HT := Lib.hid (h.up hb2)
 have HBW := Lib.hid hb2
 have KA := fun W (k : Below W2.heap.size W2 W) => tnumber_any hd hn a ha W (HT.out.up k)
 have KB := fun W (k : Below W2.heap.size W2 W) => tnumber_any hd hn b hb W (HT.out.up k)
 obtain ⟨hra, hgB, hrB, hmt⟩ := HT.out.mat (HT.out.pos hd0 ha)
 obtain ⟨i, hi⟩ : ∃ i, i = numF t.vars a := ⟨_, rfl⟩
 obtain ⟨j, hj⟩ : ∃ j, j = numF t.vars b := ⟨_, rfl⟩
 rw [← hi] at KA hia
 rw [← hj] at KB hib
 rw [← hi, ← hj]
 obtain ⟨F, hF⟩ : ∃ F, F = nF t.vars := ⟨_, rfl⟩
 have hiF : i < F := by rw [hF]; exact hia
 have hjF : j < F := by rw [hF]; exact hib
 have x5 := HT.out.box.cell 5 (.slice ra (nF t.vars) rc) rfl
 have hXl := HT.out.box.lt
 rw [← hF] at hmt x5
 subst hra
 have hF4 : F ≤ 4096 := by
  have : ∀ i, i ≤ t.vars.length → frS t.vars i ≤ 64 * i := fun i => by
   induction i with
   | zero => intro _; exact Int.le_refl _
   | succ i ih =>
    intro hi
    have h1 := ih (by omega)
    have h2 := hd i (by omega)
    have e : frS t.vars (i + 1) = frS t.vars i + nth t.vars i := rfl
    omega
  have := this _ (Nat.le_refl _)
  unfold nF at hF
  omega
 have a0 := (hx1.up hb12).cell 0 (.int .i64 a.1) rfl
 have a1 := (hx1.up hb12).cell 1 (.int .i64 a.2) rfl
 have b0 := hx2.cell 0 (.int .i64 b.1) rfl
 have b1 := hx2.cell 1 (.int .i64 b.2) rfl
 have hl2 := hx2.lt
 have G0 := Lib.hid (hmt.top i hiF)
 have R0 := Lib.hid (hmt.cell hiF hjF)
 have hgl : g < W2.heap.size := hmt.glt
 have hrl : rb i < W2.heap.size := hmt.rlt hiF
 have KA := Lib.hid KA
 have KB := Lib.hid KB
 clear h hi hj hF hmt hrB hx1 hx2 hb12 hb1 hb2 hz1 hd hn hd0 hia hib ha hb
 go_enter Tryz.func52, Tryz.ntmps52
 go_wp2_with fail
 rw [← hW1, ← hW2]
 have HW := Lib.hid (And.intro hW1 hW2)
 clear hW1 hW2
 refine wp_region_G 13 (fun w' => ∀ b o, w'.cell? ⟨b, o, none⟩ = if b < W2.heap.size then W2.cell? ⟨b, o, none⟩ else hidC w' b o) (by kernel_rfl) (cif (B := W2.heap.size) (W := W2) (Below.refl _ _).drew) ?_
 intro hG0
 refine wpS1 0 hG0 ?_; intro hG1; clear hG0
 refine wpS1 1 hG1 ?_; intro hG2; clear hG1
 refine wpS1 2 hG2 ?_; intro hG3; clear hG2
 refine wpS2 3 hG3 ?_; intro hG4; clear hG3
 refine wpS1 4 hG4 ?_; intro hG5; clear hG4
 refine wpS2 5 hG5 ?_; intro hG6; clear hG5
 refine wpS1 9 hG6 ?_; intro hG7; clear hG6
 refine wpS2 10 hG7 ?_; intro hG8; clear hG7
 refine wpAnyG_ready (rs := [6]) (by kernel_rfl) (by simp) (AllG.cons rfl hG8 (fun K hK => ?_) AllG.nil)
 (go_simp; go_at_call 59; refine (KA.out _ (by exact bel)).mono ?_; rintro e w3 ⟨rfl, hb3⟩; have hB3 : Below W2.heap.size W2 w3 := (Below.refl _ _).drew.trans hb3; have hz3 := hB3.size; have g3 := (hB3.cell (p := ⟨g, i, none⟩) hgl).trans G0.out; clear hb3)
 refine hK.out _ _ (Or.inr (cif (by exact bel))) (fun hG9 => wpN ?_); clear hK hG8
 refine wpS1 7 hG9 ?_; intro hG10; clear hG9
 refine wpAnyG_ready (rs := [8, 11]) (by kernel_rfl) (by simp) (AllG.cons rfl hG10 (fun K hK => ?_) (AllG.cons rfl hG10 (fun K hK => ?_) AllG.nil))
 (go_simp)
 refine hK.out _ _ (Or.inr (cif (by exact bel))) (fun hG11 => wpN ?_); clear hK hG10
 refine wpAnyG_ready (rs := [11]) (by kernel_rfl) (by simp) (AllG.cons rfl hG11 (fun K hK => ?_) AllG.nil)
 (go_simp; go_at_call 59; refine (KB.out _ (by exact bel)).mono ?_; rintro e w4 ⟨rfl, hb4⟩; have hB4 : Below W2.heap.size W2 w4 := hB3.trans (hb4.mono hz3); have hz4 := hB4.size; have g4 := (hB4.cell (p := ⟨g, i, none⟩) hgl).trans G0.out; have r4 := (hB4.cell (p := ⟨rb i, j, none⟩) hrl).trans R0.out; clear hb4)
 refine hK.out _ _ (Or.inr (cif (by exact bel))) (fun hG12 => wpN ?_); clear hK hG11
 refine wpS1 12 hG12 ?_; intro hG13; clear hG12
 refine wpAnyG_ready (rs := [13]) (by kernel_rfl) (by simp) (AllG.cons rfl hG13 (fun K hK => ?_) AllG.nil)
 (go_simp)
 refine hK.out _ _ (Or.inl rfl) (fun hG14 => wpN ?_); clear hK hG13
 refine wpS1 14 hG14 ?_; intro hG15; clear hG14
 refine wpAnyG_done (by kernel_rfl) ?_ _; clear hG15
 rotate_left
 (go_simp; go_at_call 59; refine (KB.out _ (by exact bel)).mono ?_; rintro e w4 ⟨rfl, hb4⟩; have hB4 : Below W2.heap.size W2 w4 := hB3.trans (hb4.mono hz3); have hz4 := hB4.size; have g4 := (hB4.cell (p := ⟨g, i, none⟩) hgl).trans G0.out; have r4 := (hB4.cell (p := ⟨rb i, j, none⟩) hrl).trans R0.out; clear hb4)
 refine hK.out _ _ (Or.inr (cif (by exact bel))) (fun hG11 => wpN ?_); clear hK hG10
 refine wpAnyG_ready (rs := [8]) (by kernel_rfl) (by simp) (AllG.cons rfl hG11 (fun K hK => ?_) AllG.nil)
 (go_simp)
 refine hK.out _ _ (Or.inr (cif (by exact bel))) (fun hG12 => wpN ?_); clear hK hG11
 refine wpS1 12 hG12 ?_; intro hG13; clear hG12
 refine wpAnyG_ready (rs := [13]) (by kernel_rfl) (by simp) (AllG.cons rfl hG13 (fun K hK => ?_) AllG.nil)
 (go_simp)
 refine hK.out _ _ (Or.inl rfl) (fun hG14 => wpN ?_); clear hK hG13
 refine wpS1 14 hG14 ?_; intro hG15; clear hG14
 refine wpAnyG_done (by kernel_rfl) ?_ _; clear hG15
 rotate_left
 all_goals (go_wp2; go_ret; exact ⟨rfl, HBW.out.trans (hB4.mono HBW.out.size)⟩)
end

section
open Go Go.RowKit
set_option linter.unusedVariables false

/-- Two facts noted. -/
def stM (M : Nat → Nat → Bool) (i j : Nat) : Nat → Nat → Bool := fun r c => if r = j ∧ c = i then true else if r = i ∧ c = j then true else M r c
/-- The rows of a matrix. -/
def RowB (F : Nat) (rb : Nat → Nat) (q : Nat) : Prop := ∃ j, j < F ∧ rb j = q
theorem there_mat {w : World} {g n : Nat} {rb L : Nat → Nat} {M : Nat → Nat → Bool} (h : MatIs w g n rb L M) {v u : Nat} (hv : v < n) (hu : u < L v) : w.there (rb v) u 1 := fun j hj => by
 have : j = 0 := by omega
 subst this
 exact ⟨by rw [Nat.add_zero, h.cell hv hu]; rfl, h.frozen _ hv⟩

set_option maxRecDepth 20000 in
set_option maxHeartbeats 32000000 in
theorem tset_any {B X fc rc g : Nat} {t : Tsk} {p : Lies} {fa ra : Option Addr} {rb : Nat → Nat} {M : Nat → Nat → Bool} (hd : ∀ k, k < t.vars.length → 1 ≤ nth t.vars k ∧ nth t.vars k ≤ 64) (hn : t.vars.length ≤ 64) (a b : Fct) (ha : IsF t.vars a) (hb : IsF t.vars b) (w : World) (h : TblAt w B X t p fa fc ra rc g rb M) :
  Calls Tryz.prog 26 #[.pointer (some ⟨X, 0, none⟩), .agg #[.int .i64 a.1, .int .i64 a.2], .agg #[.int .i64 b.1, .int .i64 b.2]] w fun e w' => e = .returned (.tuple #[]) ∧ TblAt w' B X t p fa fc ra rc g rb (stM M (numF t.vars a) (numF t.vars b)) ∧ Kb (RowB (nF t.vars) rb) w w' := by
 have hd0 : ∀ k, k < t.vars.length → 0 ≤ nth t.vars k := fun k hk => by have := hd k hk; omega
 have hia := num_lt hd0 ha
 have hib := num_lt hd0 hb
 obtain ⟨W1, hW1⟩ : ∃ W1, W1 = w.alloc (.cells #[.int .i64 a.1, .int .i64 a.2] 68) := ⟨_, rfl⟩
 obtain ⟨W2, hW2⟩ : ∃ W2, W2 = W1.alloc (.cells #[.int .i64 b.1, .int .i64 b.2] 68) := ⟨_, rfl⟩
 have hz1 : W1.heap.size = w.heap.size + 1 := by rw [hW1]; simp
 have hx1 : BxI W1 w.heap.size 68 #[.int .i64 a.1, .int .i64 a.2] := by rw [hW1]; exact BxI.new _ _ _
 have hx2 : BxI W2 (w.heap.size + 1) 68 #[.int .i64 b.1, .int .i64 b.2] := by rw [hW2, ← hz1]; exact BxI.new _ _ _
 have hb12 : Below W1.heap.size W1 W2 := by rw [hW2]; exact (Below.refl _ _).alloc (Nat.le_refl _) _
 have hb1 : Below w.heap.size w W1 := by rw [hW1]; exact (Below.refl _ _).alloc (Nat.le_refl _) _
 have hb2 : Below w.heap.size w W2 := hb1.trans (hb12.mono hb1.size)
 have HT := Lib.hid (h.up hb2)
 have HBW := Lib.hid hb2
 have KA := fun W (k : Below W2.heap.size W2 W) => tnumber_any hd hn a ha W (HT.out.up k)
 have KB := fun W (k : Below W2.heap.size W2 W) => tnumber_any hd hn b hb W (HT.out.up k)
 obtain ⟨hra, hgB, hrB, hmt⟩ := HT.out.mat (HT.out.pos hd0 ha)
 obtain ⟨i, hi⟩ : ∃ i, i = numF t.vars a := ⟨_, rfl⟩
 obtain ⟨j, hj⟩ : ∃ j, j = numF t.vars b := ⟨_, rfl⟩
 rw [← hi] at KA hia
 rw [← hj] at KB hib
 rw [← hi, ← hj]
 obtain ⟨F, hF⟩ : ∃ F, F = nF t.vars := ⟨_, rfl⟩
 have HFF := Lib.hid hF
 rw [← hF]
 have hiF : i < F := by rw [hF]; exact hia
 have hjF : j < F := by rw [hF]; exact hib
 have x5 := HT.out.box.cell 5 (.slice ra (nF t.vars) rc) rfl
 have hXl := HT.out.box.lt
 rw [← hF] at hmt x5
 subst hra
 have hF4 : F ≤ 4096 := by
  have : ∀ i, i ≤ t.vars.length → frS t.vars i ≤ 64 * i := fun i => by
   induction i with
   | zero => intro _; exact Int.le_refl _
   | succ i ih =>
    intro hi
    have h1 := ih (by omega)
    have h2 := hd i (by omega)
    have e : frS t.vars (i + 1) = frS t.vars i + nth t.vars i := rfl
    omega
  have := this _ (Nat.le_refl _)
  unfold nF at hF
  omega
 have a0 := (hx1.up hb12).cell 0 (.int .i64 a.1) rfl
 have a1 := (hx1.up hb12).cell 1 (.int .i64 a.2) rfl
 have b0 := hx2.cell 0 (.int .i64 b.1) rfl
 have b1 := hx2.cell 1 (.int .i64 b.2) rfl
 have hl2 := hx2.lt
 have G0 := Lib.hid (hmt.top i hiF)
 have K0 := Lib.hid (hmt.top j hjF)
 have HMT := Lib.hid hmt
 have hgl : g < W2.heap.size := hmt.glt
 have hri : B ≤ rb i := hrB i (by omega)
 have hrj : B ≤ rb j := hrB j (by omega)
 have KA := Lib.hid KA
 have KB := Lib.hid KB
 have KA := Lib.hid KA
 have KB := Lib.hid KB
 have hle := HT.out.le
 have hxB := HT.out.xB
 clear h hi hj hF hmt hrB hx1 hx2 hb12 hb1 hb2 hz1 hd hn hd0 hia hib ha hb
 go_enter Tryz.func26, Tryz.ntmps26
 go_wp2_with fail
 rw [← hW1, ← hW2]
 have HW := Lib.hid (And.intro hW1 hW2)
 clear hW1 hW2
 refine wp_region_G 25 (fun w' => ∀ b o, w'.cell? ⟨b, o, none⟩ = if b < W2.heap.size then W2.cell? ⟨b, o, none⟩ else hidC w' b o) (by kernel_rfl) (cif (B := W2.heap.size) (W := W2) (Below.refl _ _).drew) ?_
 intro hG0
 refine wpS1 0 hG0 ?_; intro hG1; clear hG0
 refine wpS1 1 hG1 ?_; intro hG2; clear hG1
 refine wpS1 2 hG2 ?_; intro hG3; clear hG2
 refine wpS2 3 hG3 ?_; intro hG4; clear hG3
 refine wpS1 4 hG4 ?_; intro hG5; clear hG4
 refine wpS2 5 hG5 ?_; intro hG6; clear hG5
 refine wpS1 9 hG6 ?_; intro hG7; clear hG6
 refine wpS2 10 hG7 ?_; intro hG8; clear hG7
 refine wpS1 12 hG8 ?_; intro hG9; clear hG8
 refine wpS1 13 hG9 ?_; intro hG10; clear hG9
 refine wpS1 14 hG10 ?_; intro hG11; clear hG10
 refine wpS2 15 hG11 ?_; intro hG12; clear hG11
 refine wpS1 16 hG12 ?_; intro hG13; clear hG12
 refine wpS2 17 hG13 ?_; intro hG14; clear hG13
 refine wpS1 21 hG14 ?_; intro hG15; clear hG14
 refine wpS2 22 hG15 ?_; intro hG16; clear hG15
 refine wpAnyG_ready (rs := [6]) (by kernel_rfl) (by simp) (AllG.cons rfl hG16 (fun K hK => ?_) AllG.nil)
 (go_simp; go_at_call 59; refine (KA.out _ (by exact bel)).mono ?_; rintro e w3 ⟨rfl, hb3⟩; have hB3 : Below W2.heap.size W2 w3 := (Below.refl _ _).drew.trans hb3; have hz3 := hB3.size; have g3 := (hB3.cell (p := ⟨g, i, none⟩) hgl).trans G0.out; clear hb3)
 refine hK.out _ _ (Or.inr (cif (by exact bel))) (fun hG17 => wpN ?_); clear hK hG16
 refine wpS1 7 hG17 ?_; intro hG18; clear hG17
 refine wpAnyG_ready (rs := [8, 11]) (by kernel_rfl) (by simp) (AllG.cons rfl hG18 (fun K hK => ?_) (AllG.cons rfl hG18 (fun K hK => ?_) AllG.nil))
 (go_simp)
 refine hK.out _ _ (Or.inr (cif (by exact bel))) (fun hG19 => wpN ?_); clear hK hG18
 refine wpAnyG_ready (rs := [11]) (by kernel_rfl) (by simp) (AllG.cons rfl hG19 (fun K hK => ?_) AllG.nil)
 (go_simp; go_at_call 59; refine (KB.out _ (by exact bel)).mono ?_; rintro e w4 ⟨rfl, hb4⟩; have hB4 : Below W2.heap.size W2 w4 := hB3.trans (hb4.mono hz3); have hz4 := hB4.size; have g4 := (hB4.cell (p := ⟨g, i, none⟩) hgl).trans G0.out; clear hb4)
 refine hK.out _ _ (Or.inr (cif (by exact bel))) (fun hG20 => wpN ?_); clear hK hG19
 refine wpAnyG_ready (rs := [18]) (by kernel_rfl) (by simp) (AllG.cons rfl hG20 (fun K hK => ?_) AllG.nil)
 (go_simp; go_at_call 59; refine (KB.out _ (by exact bel)).mono ?_; rintro e w5 ⟨rfl, hb5⟩; have hB5 : Below W2.heap.size W2 w5 := hB4.trans (hb5.mono hz4); have hz5 := hB5.size; have g5 := (hB5.cell (p := ⟨g, i, none⟩) hgl).trans G0.out; have k5 := (hB5.cell (p := ⟨g, j, none⟩) hgl).trans K0.out; clear hb5)
 refine hK.out _ _ (Or.inr (cif (by exact bel))) (fun hG21 => wpN ?_); clear hK hG20
 refine wpS1 19 hG21 ?_; intro hG22; clear hG21
 refine wpAnyG_ready (rs := [20, 23]) (by kernel_rfl) (by simp) (AllG.cons rfl hG22 (fun K hK => ?_) (AllG.cons rfl hG22 (fun K hK => ?_) AllG.nil))
 (go_simp)
 refine hK.out _ _ (Or.inr (cif (by exact bel))) (fun hG23 => wpN ?_); clear hK hG22
 refine wpAnyG_ready (rs := [23]) (by kernel_rfl) (by simp) (AllG.cons rfl hG23 (fun K hK => ?_) AllG.nil)
 (go_simp; go_at_call 59; refine (KA.out _ (by exact bel)).mono ?_; rintro e w6 ⟨rfl, hb6⟩; have hB6 : Below W2.heap.size W2 w6 := hB5.trans (hb6.mono hz5); have hz6 := hB6.size; have g6 := (hB6.cell (p := ⟨g, i, none⟩) hgl).trans G0.out; have k6 := (hB6.cell (p := ⟨g, j, none⟩) hgl).trans K0.out; have HM6 := Lib.hid (HMT.out.up hB6); clear hb6)
 refine hK.out _ _ (Or.inr (cif (by exact bel))) (fun hG24 => wpN ?_); clear hK hG23
 refine wpS1 24 hG24 ?_; intro hG25; clear hG24
 refine wpAnyG_ready (rs := [25]) (by kernel_rfl) (by simp) (AllG.cons rfl hG25 (fun K hK => ?_) AllG.nil)
 (refine step_store1 (by rfl) 4 _ _ (by rfl) (rb i) j (.bool true) rfl (by rfl) (by rfl) (there_mat HM6.out hiF hjF) (by kernel_rfl) rfl ?_; intro wy HWY)
 refine hK.out _ _ (Or.inl rfl) (fun hG26 => wpN ?_); clear hK hG25
 refine wpS1 26 hG26 ?_; intro hG27; clear hG26
 refine wpAnyG_ready (rs := [27]) (by kernel_rfl) (by simp) (AllG.cons rfl hG27 (fun K hK => ?_) AllG.nil)
 (refine step_store1 (by rfl) 4 _ _ (by rfl) (rb j) i (.bool true) rfl (by rfl) (by rfl) (there_mat (show MatIs wy g F rb (fun _ => F) _ by rw [HWY.out]; exact HM6.out.put hiF true) hjF hiF) (by kernel_rfl) rfl ?_; intro wz HWZ)
 refine hK.out _ _ (Or.inl rfl) (fun hG28 => wpN ?_); clear hK hG27
 refine wpAnyG_done (by kernel_rfl) ?_ _; clear hG28
 rotate_left
 (go_simp; go_at_call 59; refine (KA.out _ (by exact bel)).mono ?_; rintro e w6 ⟨rfl, hb6⟩; have hB6 : Below W2.heap.size W2 w6 := hB5.trans (hb6.mono hz5); have hz6 := hB6.size; have g6 := (hB6.cell (p := ⟨g, i, none⟩) hgl).trans G0.out; have k6 := (hB6.cell (p := ⟨g, j, none⟩) hgl).trans K0.out; have HM6 := Lib.hid (HMT.out.up hB6); clear hb6)
 refine hK.out _ _ (Or.inr (cif (by exact bel))) (fun hG23 => wpN ?_); clear hK hG22
 refine wpAnyG_ready (rs := [20]) (by kernel_rfl) (by simp) (AllG.cons rfl hG23 (fun K hK => ?_) AllG.nil)
 (go_simp)
 refine hK.out _ _ (Or.inr (cif (by exact bel))) (fun hG24 => wpN ?_); clear hK hG23
 refine wpS1 24 hG24 ?_; intro hG25; clear hG24
 refine wpAnyG_ready (rs := [25]) (by kernel_rfl) (by simp) (AllG.cons rfl hG25 (fun K hK => ?_) AllG.nil)
 (refine step_store1 (by rfl) 4 _ _ (by rfl) (rb i) j (.bool true) rfl (by rfl) (by rfl) (there_mat HM6.out hiF hjF) (by kernel_rfl) rfl ?_; intro wy HWY)
 refine hK.out _ _ (Or.inl rfl) (fun hG26 => wpN ?_); clear hK hG25
 refine wpS1 26 hG26 ?_; intro hG27; clear hG26
 refine wpAnyG_ready (rs := [27]) (by kernel_rfl) (by simp) (AllG.cons rfl hG27 (fun K hK => ?_) AllG.nil)
 (refine step_store1 (by rfl) 4 _ _ (by rfl) (rb j) i (.bool true) rfl (by rfl) (by rfl) (there_mat (show MatIs wy g F rb (fun _ => F) _ by rw [HWY.out]; exact HM6.out.put hiF true) hjF hiF) (by kernel_rfl) rfl ?_; intro wz HWZ)
 refine hK.out _ _ (Or.inl rfl) (fun hG28 => wpN ?_); clear hK hG27
 refine wpAnyG_done (by kernel_rfl) ?_ _; clear hG28
 rotate_left
 (go_simp; go_at_call 59; refine (KB.out _ (by exact bel)).mono ?_; rintro e w4 ⟨rfl, hb4⟩; have hB4 : Below W2.heap.size W2 w4 := hB3.trans (hb4.mono hz3); have hz4 := hB4.size; have g4 := (hB4.cell (p := ⟨g, i, none⟩) hgl).trans G0.out; clear hb4)
 refine hK.out _ _ (Or.inr (cif (by exact bel))) (fun hG19 => wpN ?_); clear hK hG18
 refine wpAnyG_ready (rs := [8, 18]) (by kernel_rfl) (by simp) (AllG.cons rfl hG19 (fun K hK => ?_) (AllG.cons rfl hG19 (fun K hK => ?_) AllG.nil))
 (go_simp)
 refine hK.out _ _ (Or.inr (cif (by exact bel))) (fun hG20 => wpN ?_); clear hK hG19
 refine wpAnyG_ready (rs := [18]) (by kernel_rfl) (by simp) (AllG.cons rfl hG20 (fun K hK => ?_) AllG.nil)
 (go_simp; go_at_call 59; refine (KB.out _ (by exact bel)).mono ?_; rintro e w5 ⟨rfl, hb5⟩; have hB5 : Below W2.heap.size W2 w5 := hB4.trans (hb5.mono hz4); have hz5 := hB5.size; have g5 := (hB5.cell (p := ⟨g, i, none⟩) hgl).trans G0.out; have k5 := (hB5.cell (p := ⟨g, j, none⟩) hgl).trans K0.out; clear hb5)
 refine hK.out _ _ (Or.inr (cif (by exact bel))) (fun hG21 => wpN ?_); clear hK hG20
 refine wpS1 19 hG21 ?_; intro hG22; clear hG21
 refine wpAnyG_ready (rs := [20, 23]) (by kernel_rfl) (by simp) (AllG.cons rfl hG22 (fun K hK => ?_) (AllG.cons rfl hG22 (fun K hK => ?_) AllG.nil))
 (go_simp)
 refine hK.out _ _ (Or.inr (cif (by exact bel))) (fun hG23 => wpN ?_); clear hK hG22
 refine wpAnyG_ready (rs := [23]) (by kernel_rfl) (by simp) (AllG.cons rfl hG23 (fun K hK => ?_) AllG.nil)
 (go_simp; go_at_call 59; refine (KA.out _ (by exact bel)).mono ?_; rintro e w6 ⟨rfl, hb6⟩; have hB6 : Below W2.heap.size W2 w6 := hB5.trans (hb6.mono hz5); have hz6 := hB6.size; have g6 := (hB6.cell (p := ⟨g, i, none⟩) hgl).trans G0.out; have k6 := (hB6.cell (p := ⟨g, j, none⟩) hgl).trans K0.out; have HM6 := Lib.hid (HMT.out.up hB6); clear hb6)
 refine hK.out _ _ (Or.inr (cif (by exact bel))) (fun hG24 => wpN ?_); clear hK hG23
 refine wpS1 24 hG24 ?_; intro hG25; clear hG24
 refine wpAnyG_ready (rs := [25]) (by kernel_rfl) (by simp) (AllG.cons rfl hG25 (fun K hK => ?_) AllG.nil)
 (refine step_store1 (by rfl) 4 _ _ (by rfl) (rb i) j (.bool true) rfl (by rfl) (by rfl) (there_mat HM6.out hiF hjF) (by kernel_rfl) rfl ?_; intro wy HWY)
 refine hK.out _ _ (Or.inl rfl) (fun hG26 => wpN ?_); clear hK hG25
 refine wpS1 26 hG26 ?_; intro hG27; clear hG26
 refine wpAnyG_ready (rs := [27]) (by kernel_rfl) (by simp) (AllG.cons rfl hG27 (fun K hK => ?_) AllG.nil)
 (refine step_store1 (by rfl) 4 _ _ (by rfl) (rb j) i (.bool true) rfl (by rfl) (by rfl) (there_mat (show MatIs wy g F rb (fun _ => F) _ by rw [HWY.out]; exact HM6.out.put hiF true) hjF hiF) (by kernel_rfl) rfl ?_; intro wz HWZ)
 refine hK.out _ _ (Or.inl rfl) (fun hG28 => wpN ?_); clear hK hG27
 refine wpAnyG_done (by kernel_rfl) ?_ _; clear hG28
 rotate_left
 (go_simp; go_at_call 59; refine (KA.out _ (by exact bel)).mono ?_; rintro e w6 ⟨rfl, hb6⟩; have hB6 : Below W2.heap.size W2 w6 := hB5.trans (hb6.mono hz5); have hz6 := hB6.size; have g6 := (hB6.cell (p := ⟨g, i, none⟩) hgl).trans G0.out; have k6 := (hB6.cell (p := ⟨g, j, none⟩) hgl).trans K0.out; have HM6 := Lib.hid (HMT.out.up hB6); clear hb6)
 refine hK.out _ _ (Or.inr (cif (by exact bel))) (fun hG23 => wpN ?_); clear hK hG22
 refine wpAnyG_ready (rs := [20]) (by kernel_rfl) (by simp) (AllG.cons rfl hG23 (fun K hK => ?_) AllG.nil)
 (go_simp)
 refine hK.out _ _ (Or.inr (cif (by exact bel))) (fun hG24 => wpN ?_); clear hK hG23
 refine wpS1 24 hG24 ?_; intro hG25; clear hG24
 refine wpAnyG_ready (rs := [25]) (by kernel_rfl) (by simp) (AllG.cons rfl hG25 (fun K hK => ?_) AllG.nil)
 (refine step_store1 (by rfl) 4 _ _ (by rfl) (rb i) j (.bool true) rfl (by rfl) (by rfl) (there_mat HM6.out hiF hjF) (by kernel_rfl) rfl ?_; intro wy HWY)
 refine hK.out _ _ (Or.inl rfl) (fun hG26 => wpN ?_); clear hK hG25
 refine wpS1 26 hG26 ?_; intro hG27; clear hG26
 refine wpAnyG_ready (rs := [27]) (by kernel_rfl) (by simp) (AllG.cons rfl hG27 (fun K hK => ?_) AllG.nil)
 (refine step_store1 (by rfl) 4 _ _ (by rfl) (rb j) i (.bool true) rfl (by rfl) (by rfl) (there_mat (show MatIs wy g F rb (fun _ => F) _ by rw [HWY.out]; exact HM6.out.put hiF true) hjF hiF) (by kernel_rfl) rfl ?_; intro wz HWZ)
 refine hK.out _ _ (Or.inl rfl) (fun hG28 => wpN ?_); clear hK hG27
 refine wpAnyG_done (by kernel_rfl) ?_ _; clear hG28
 rotate_left
 (go_simp; go_at_call 59; refine (KB.out _ (by exact bel)).mono ?_; rintro e w5 ⟨rfl, hb5⟩; have hB5 : Below W2.heap.size W2 w5 := hB4.trans (hb5.mono hz4); have hz5 := hB5.size; have g5 := (hB5.cell (p := ⟨g, i, none⟩) hgl).trans G0.out; have k5 := (hB5.cell (p := ⟨g, j, none⟩) hgl).trans K0.out; clear hb5)
 refine hK.out _ _ (Or.inr (cif (by exact bel))) (fun hG20 => wpN ?_); clear hK hG19
 refine wpS1 19 hG20 ?_; intro hG21; clear hG20
 refine wpAnyG_ready (rs := [8, 20, 23]) (by kernel_rfl) (by simp) (AllG.cons rfl hG21 (fun K hK => ?_) (AllG.cons rfl hG21 (fun K hK => ?_) (AllG.cons rfl hG21 (fun K hK => ?_) AllG.nil)))
 (go_simp)
 refine hK.out _ _ (Or.inr (cif (by exact bel))) (fun hG22 => wpN ?_); clear hK hG21
 refine wpAnyG_ready (rs := [20, 23]) (by kernel_rfl) (by simp) (AllG.cons rfl hG22 (fun K hK => ?_) (AllG.cons rfl hG22 (fun K hK => ?_) AllG.nil))
 (go_simp)
 refine hK.out _ _ (Or.inr (cif (by exact bel))) (fun hG23 => wpN ?_); clear hK hG22
 refine wpAnyG_ready (rs := [23]) (by kernel_rfl) (by simp) (AllG.cons rfl hG23 (fun K hK => ?_) AllG.nil)
 (go_simp; go_at_call 59; refine (KA.out _ (by exact bel)).mono ?_; rintro e w6 ⟨rfl, hb6⟩; have hB6 : Below W2.heap.size W2 w6 := hB5.trans (hb6.mono hz5); have hz6 := hB6.size; have g6 := (hB6.cell (p := ⟨g, i, none⟩) hgl).trans G0.out; have k6 := (hB6.cell (p := ⟨g, j, none⟩) hgl).trans K0.out; have HM6 := Lib.hid (HMT.out.up hB6); clear hb6)
 refine hK.out _ _ (Or.inr (cif (by exact bel))) (fun hG24 => wpN ?_); clear hK hG23
 refine wpS1 24 hG24 ?_; intro hG25; clear hG24
 refine wpAnyG_ready (rs := [25]) (by kernel_rfl) (by simp) (AllG.cons rfl hG25 (fun K hK => ?_) AllG.nil)
 (refine step_store1 (by rfl) 4 _ _ (by rfl) (rb i) j (.bool true) rfl (by rfl) (by rfl) (there_mat HM6.out hiF hjF) (by kernel_rfl) rfl ?_; intro wy HWY)
 refine hK.out _ _ (Or.inl rfl) (fun hG26 => wpN ?_); clear hK hG25
 refine wpS1 26 hG26 ?_; intro hG27; clear hG26
 refine wpAnyG_ready (rs := [27]) (by kernel_rfl) (by simp) (AllG.cons rfl hG27 (fun K hK => ?_) AllG.nil)
 (refine step_store1 (by rfl) 4 _ _ (by rfl) (rb j) i (.bool true) rfl (by rfl) (by rfl) (there_mat (show MatIs wy g F rb (fun _ => F) _ by rw [HWY.out]; exact HM6.out.put hiF true) hjF hiF) (by kernel_rfl) rfl ?_; intro wz HWZ)
 refine hK.out _ _ (Or.inl rfl) (fun hG28 => wpN ?_); clear hK hG27
 refine wpAnyG_done (by kernel_rfl) ?_ _; clear hG28
 rotate_left
 (go_simp; go_at_call 59; refine (KA.out _ (by exact bel)).mono ?_; rintro e w6 ⟨rfl, hb6⟩; have hB6 : Below W2.heap.size W2 w6 := hB5.trans (hb6.mono hz5); have hz6 := hB6.size; have g6 := (hB6.cell (p := ⟨g, i, none⟩) hgl).trans G0.out; have k6 := (hB6.cell (p := ⟨g, j, none⟩) hgl).trans K0.out; have HM6 := Lib.hid (HMT.out.up hB6); clear hb6)
 refine hK.out _ _ (Or.inr (cif (by exact bel))) (fun hG23 => wpN ?_); clear hK hG22
 refine wpAnyG_ready (rs := [20]) (by kernel_rfl) (by simp) (AllG.cons rfl hG23 (fun K hK => ?_) AllG.nil)
 (go_simp)
 refine hK.out _ _ (Or.inr (cif (by exact bel))) (fun hG24 => wpN ?_); clear hK hG23
 refine wpS1 24 hG24 ?_; intro hG25; clear hG24
 refine wpAnyG_ready (rs := [25]) (by kernel_rfl) (by simp) (AllG.cons rfl hG25 (fun K hK => ?_) AllG.nil)
 (refine step_store1 (by rfl) 4 _ _ (by rfl) (rb i) j (.bool true) rfl (by rfl) (by rfl) (there_mat HM6.out hiF hjF) (by kernel_rfl) rfl ?_; intro wy HWY)
 refine hK.out _ _ (Or.inl rfl) (fun hG26 => wpN ?_); clear hK hG25
 refine wpS1 26 hG26 ?_; intro hG27; clear hG26
 refine wpAnyG_ready (rs := [27]) (by kernel_rfl) (by simp) (AllG.cons rfl hG27 (fun K hK => ?_) AllG.nil)
 (refine step_store1 (by rfl) 4 _ _ (by rfl) (rb j) i (.bool true) rfl (by rfl) (by rfl) (there_mat (show MatIs wy g F rb (fun _ => F) _ by rw [HWY.out]; exact HM6.out.put hiF true) hjF hiF) (by kernel_rfl) rfl ?_; intro wz HWZ)
 refine hK.out _ _ (Or.inl rfl) (fun hG28 => wpN ?_); clear hK hG27
 refine wpAnyG_done (by kernel_rfl) ?_ _; clear hG28
 rotate_left
 (go_simp)
 refine hK.out _ _ (Or.inr (cif (by exact bel))) (fun hG22 => wpN ?_); clear hK hG21
 refine wpAnyG_ready (rs := [8, 23]) (by kernel_rfl) (by simp) (AllG.cons rfl hG22 (fun K hK => ?_) (AllG.cons rfl hG22 (fun K hK => ?_) AllG.nil))
 (go_simp)
 refine hK.out _ _ (Or.inr (cif (by exact bel))) (fun hG23 => wpN ?_); clear hK hG22
 refine wpAnyG_ready (rs := [23]) (by kernel_rfl) (by simp) (AllG.cons rfl hG23 (fun K hK => ?_) AllG.nil)
 (go_simp; go_at_call 59; refine (KA.out _ (by exact bel)).mono ?_; rintro e w6 ⟨rfl, hb6⟩; have hB6 : Below W2.heap.size W2 w6 := hB5.trans (hb6.mono hz5); have hz6 := hB6.size; have g6 := (hB6.cell (p := ⟨g, i, none⟩) hgl).trans G0.out; have k6 := (hB6.cell (p := ⟨g, j, none⟩) hgl).trans K0.out; have HM6 := Lib.hid (HMT.out.up hB6); clear hb6)
 refine hK.out _ _ (Or.inr (cif (by exact bel))) (fun hG24 => wpN ?_); clear hK hG23
 refine wpS1 24 hG24 ?_; intro hG25; clear hG24
 refine wpAnyG_ready (rs := [25]) (by kernel_rfl) (by simp) (AllG.cons rfl hG25 (fun K hK => ?_) AllG.nil)
 (refine step_store1 (by rfl) 4 _ _ (by rfl) (rb i) j (.bool true) rfl (by rfl) (by rfl) (there_mat HM6.out hiF hjF) (by kernel_rfl) rfl ?_; intro wy HWY)
 refine hK.out _ _ (Or.inl rfl) (fun hG26 => wpN ?_); clear hK hG25
 refine wpS1 26 hG26 ?_; intro hG27; clear hG26
 refine wpAnyG_ready (rs := [27]) (by kernel_rfl) (by simp) (AllG.cons rfl hG27 (fun K hK => ?_) AllG.nil)
 (refine step_store1 (by rfl) 4 _ _ (by rfl) (rb j) i (.bool true) rfl (by rfl) (by rfl) (there_mat (show MatIs wy g F rb (fun _ => F) _ by rw [HWY.out]; exact HM6.out.put hiF true) hjF hiF) (by kernel_rfl) rfl ?_; intro wz HWZ)
 refine hK.out _ _ (Or.inl rfl) (fun hG28 => wpN ?_); clear hK hG27
 refine wpAnyG_done (by kernel_rfl) ?_ _; clear hG28
 rotate_left
 (go_simp; go_at_call 59; refine (KA.out _ (by exact bel)).mono ?_; rintro e w6 ⟨rfl, hb6⟩; have hB6 : Below W2.heap.size W2 w6 := hB5.trans (hb6.mono hz5); have hz6 := hB6.size; have g6 := (hB6.cell (p := ⟨g, i, none⟩) hgl).trans G0.out; have k6 := (hB6.cell (p := ⟨g, j, none⟩) hgl).trans K0.out; have HM6 := Lib.hid (HMT.out.up hB6); clear hb6)
 refine hK.out _ _ (Or.inr (cif (by exact bel))) (fun hG23 => wpN ?_); clear hK hG22
 refine wpAnyG_ready (rs := [8]) (by kernel_rfl) (by simp) (AllG.cons rfl hG23 (fun K hK => ?_) AllG.nil)
 (go_simp)
 refine hK.out _ _ (Or.inr (cif (by exact bel))) (fun hG24 => wpN ?_); clear hK hG23
 refine wpS1 24 hG24 ?_; intro hG25; clear hG24
 refine wpAnyG_ready (rs := [25]) (by kernel_rfl) (by simp) (AllG.cons rfl hG25 (fun K hK => ?_) AllG.nil)
 (refine step_store1 (by rfl) 4 _ _ (by rfl) (rb i) j (.bool true) rfl (by rfl) (by rfl) (there_mat HM6.out hiF hjF) (by kernel_rfl) rfl ?_; intro wy HWY)
 refine hK.out _ _ (Or.inl rfl) (fun hG26 => wpN ?_); clear hK hG25
 refine wpS1 26 hG26 ?_; intro hG27; clear hG26
 refine wpAnyG_ready (rs := [27]) (by kernel_rfl) (by simp) (AllG.cons rfl hG27 (fun K hK => ?_) AllG.nil)
 (refine step_store1 (by rfl) 4 _ _ (by rfl) (rb j) i (.bool true) rfl (by rfl) (by rfl) (there_mat (show MatIs wy g F rb (fun _ => F) _ by rw [HWY.out]; exact HM6.out.put hiF true) hjF hiF) (by kernel_rfl) rfl ?_; intro wz HWZ)
 refine hK.out _ _ (Or.inl rfl) (fun hG28 => wpN ?_); clear hK hG27
 refine wpAnyG_done (by kernel_rfl) ?_ _; clear hG28
 rotate_left
 (go_simp; go_at_call 59; refine (KA.out _ (by exact bel)).mono ?_; rintro e w6 ⟨rfl, hb6⟩; have hB6 : Below W2.heap.size W2 w6 := hB5.trans (hb6.mono hz5); have hz6 := hB6.size; have g6 := (hB6.cell (p := ⟨g, i, none⟩) hgl).trans G0.out; have k6 := (hB6.cell (p := ⟨g, j, none⟩) hgl).trans K0.out; have HM6 := Lib.hid (HMT.out.up hB6); clear hb6)
 refine hK.out _ _ (Or.inr (cif (by exact bel))) (fun hG22 => wpN ?_); clear hK hG21
 refine wpAnyG_ready (rs := [8, 20]) (by kernel_rfl) (by simp) (AllG.cons rfl hG22 (fun K hK => ?_) (AllG.cons rfl hG22 (fun K hK => ?_) AllG.nil))
 (go_simp)
 refine hK.out _ _ (Or.inr (cif (by exact bel))) (fun hG23 => wpN ?_); clear hK hG22
 refine wpAnyG_ready (rs := [20]) (by kernel_rfl) (by simp) (AllG.cons rfl hG23 (fun K hK => ?_) AllG.nil)
 (go_simp)
 refine hK.out _ _ (Or.inr (cif (by exact bel))) (fun hG24 => wpN ?_); clear hK hG23
 refine wpS1 24 hG24 ?_; intro hG25; clear hG24
 refine wpAnyG_ready (rs := [25]) (by kernel_rfl) (by simp) (AllG.cons rfl hG25 (fun K hK => ?_) AllG.nil)
 (refine step_store1 (by rfl) 4 _ _ (by rfl) (rb i) j (.bool true) rfl (by rfl) (by rfl) (there_mat HM6.out hiF hjF) (by kernel_rfl) rfl ?_; intro wy HWY)
 refine hK.out _ _ (Or.inl rfl) (fun hG26 => wpN ?_); clear hK hG25
 refine wpS1 26 hG26 ?_; intro hG27; clear hG26
 refine wpAnyG_ready (rs := [27]) (by kernel_rfl) (by simp) (AllG.cons rfl hG27 (fun K hK => ?_) AllG.nil)
 (refine step_store1 (by rfl) 4 _ _ (by rfl) (rb j) i (.bool true) rfl (by rfl) (by rfl) (there_mat (show MatIs wy g F rb (fun _ => F) _ by rw [HWY.out]; exact HM6.out.put hiF true) hjF hiF) (by kernel_rfl) rfl ?_; intro wz HWZ)
 refine hK.out _ _ (Or.inl rfl) (fun hG28 => wpN ?_); clear hK hG27
 refine wpAnyG_done (by kernel_rfl) ?_ _; clear hG28
 rotate_left
 (go_simp)
 refine hK.out _ _ (Or.inr (cif (by exact bel))) (fun hG23 => wpN ?_); clear hK hG22
 refine wpAnyG_ready (rs := [8]) (by kernel_rfl) (by simp) (AllG.cons rfl hG23 (fun K hK => ?_) AllG.nil)
 (go_simp)
 refine hK.out _ _ (Or.inr (cif (by exact bel))) (fun hG24 => wpN ?_); clear hK hG23
 refine wpS1 24 hG24 ?_; intro hG25; clear hG24
 refine wpAnyG_ready (rs := [25]) (by kernel_rfl) (by simp) (AllG.cons rfl hG25 (fun K hK => ?_) AllG.nil)
 (refine step_store1 (by rfl) 4 _ _ (by rfl) (rb i) j (.bool true) rfl (by rfl) (by rfl) (there_mat HM6.out hiF hjF) (by kernel_rfl) rfl ?_; intro wy HWY)
 refine hK.out _ _ (Or.inl rfl) (fun hG26 => wpN ?_); clear hK hG25
 refine wpS1 26 hG26 ?_; intro hG27; clear hG26
 refine wpAnyG_ready (rs := [27]) (by kernel_rfl) (by simp) (AllG.cons rfl hG27 (fun K hK => ?_) AllG.nil)
 (refine step_store1 (by rfl) 4 _ _ (by rfl) (rb j) i (.bool true) rfl (by rfl) (by rfl) (there_mat (show MatIs wy g F rb (fun _ => F) _ by rw [HWY.out]; exact HM6.out.put hiF true) hjF hiF) (by kernel_rfl) rfl ?_; intro wz HWZ)
 refine hK.out _ _ (Or.inl rfl) (fun hG28 => wpN ?_); clear hK hG27
 refine wpAnyG_done (by kernel_rfl) ?_ _; clear hG28
 rotate_left
 all_goals (
  have hbB : Below B W2 wz := by
   rw [HWZ.out, HWY.out]
   exact ((hB6.mono hle).setCell (p := ⟨rb i, j, none⟩) hri _).setCell (p := ⟨rb j, i, none⟩) hrj _
  have hT : TblAt wz B X t p fa fc (some ⟨g, 0, none⟩) rc g rb (stM M i j) := ⟨by rw [HWZ.out, HWY.out]; exact ((HT.out.box.up hB6).far (by show X ≠ rb i; omega) _).far (by show X ≠ rb j; omega) _, HT.out.tsk.below hbB, HT.out.fst.below hbB, hxB, Nat.le_trans hle hbB.size, fun hp => ⟨rfl, hgB, (HT.out.mat hp).2.2.1, by rw [HWZ.out, HWY.out, ← HFF.out]; exact (HM6.out.put hiF true).put hjF true⟩⟩
  have hK : Kb (RowB F rb) w wz := by
   rw [HWZ.out, HWY.out]
   exact (((Kb.of_below HBW.out).up hB6).set (p := ⟨rb i, j, none⟩) (.inl ⟨i, hiF, rfl⟩) _).set (p := ⟨rb j, i, none⟩) (.inl ⟨j, hjF, rfl⟩) _
  clear HWZ HWY HM6 hbB
  go_wp2
  exact bodyPost_end (results_none rfl _ _ _) rfl ⟨rfl, hT, hK⟩)
end

end Go.Proofs.YtlkebhiaimijiaaGreatDoor

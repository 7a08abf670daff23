/- Texts laid together: VhL, VhM. -/
import Derived.Test.YtlkebhiaimijiaaGreatDoorBel
import Derived.Test.YtlkebhiaimijiaaGreatDoorNhA
namespace Go.Proofs.YtlkebhiaimijiaaGreatDoor
set_option linter.unusedSimpArgs false
set_option linter.unusedVariables false
section
open Go Go.RowKit
set_option linter.unusedVariables false

set_option maxHeartbeats 1000000 in
theorem if_tou (w : World) (A : Option Addr) (n c : Nat) (E0 E1 E2 : Nat → Value) (P : Nat → Bool) (B0 : Value) (hl : n ≤ 1000000) (h : 0 < n → ∃ b off, A = some ⟨b, off, none⟩ ∧ b < w.heap.size ∧ ∀ j, j < n → w.cell? ⟨b, off + j * 3, none⟩ = some (E0 j) ∧ w.cell? ⟨b, off + j * 3 + 1, none⟩ = some (E1 j) ∧ w.cell? ⟨b, off + j * 3 + 2, none⟩ = some (E2 j))
  (hg : ∀ W, Below w.heap.size w W → ∀ j, j < n → Calls Tryz.prog 91 #[.agg #[E0 j, E1 j, E2 j], B0] W fun e w' => e = .returned (.bool (P j)) ∧ Below W.heap.size W w') :
  Calls Tryz.prog 116 #[.slice A n c, .func (.func 91) #[] #[B0]] w fun e w' => (∃ i, e = .returned (.int .i64 i) ∧ decide (0 ≤ i) = anyB n P) ∧ Below w.heap.size w w' := by
 have HG := Lib.hid hg
 clear hg
 go_enter Tryz.func116, Tryz.ntmps116
 go_wp2
 go_loopw [8] (fun i wr => ∃ k : Nat, k ≤ n ∧ i = .int .i64 k ∧ Hid (anyB k P = false) ∧ Below w.heap.size w wr) (fun i _ => n - (intOf i).toNat)
 case atStart => exact ⟨0, by omega, rfl, Lib.hid rfl, Below.refl _ _⟩
 case round =>
  obtain ⟨k, hk, rfl, HB, hbel⟩ := hrel
  by_cases hlt : k < n
  ·obtain ⟨b, off, rfl, hb, hc⟩ := h (by omega)
   have hbz := hbel.size
   have d0 := (hbel.cell (p := ⟨b, off + k * 3, none⟩) hb).trans (hc k hlt).1
   have d1 := (hbel.cell (p := ⟨b, off + k * 3 + 1, none⟩) hb).trans (hc k hlt).2.1
   have d2 := (hbel.cell (p := ⟨b, off + k * 3 + 2, none⟩) hb).trans (hc k hlt).2.2
   have hcl := HG.out wr hbel k hlt
   clear hc
   cases e1 : P k
   ·rw [e1] at hcl
    go_wp2_with fail
    refine hcl.mono ?_
    rintro e w2 ⟨rfl, hb2⟩
    have HB2 := Lib.hid (show Below w.heap.size w w2 from hbel.trans (hb2.mono hbz))
    clear hcl hb2
    go_wp2
    go_roundw
    case rel => exact ⟨k + 1, by omega, by go_num, Lib.hid (by rw [anyB_succ, HB.out]; exact e1), HB2.out⟩
    case measure => simp [intOf]; omega
   ·rw [e1] at hcl
    have HT := Lib.hid (anyB_true.2 ⟨k, hlt, e1⟩)
    go_wp2_with fail
    refine hcl.mono ?_
    rintro e w2 ⟨rfl, hb2⟩
    have HB2 := Lib.hid (show Below w.heap.size w w2 from hbel.trans (hb2.mono hbz))
    clear hcl hb2
    go_wp2
    go_ret
    refine ⟨⟨_, rfl, ?_⟩, HB2.out⟩
    rw [HT.out]
    simp
  ·have HF := Lib.hid (show anyB n P = false by rw [show n = k by omega]; exact HB.out)
   go_wp2
   go_ret
   refine ⟨⟨_, rfl, ?_⟩, hbel⟩
   rw [HF.out]
   rfl
set_option maxHeartbeats 1000000 in
theorem cf_tou (w : World) (A : Option Addr) (n c : Nat) (E0 E1 E2 : Nat → Value) (P : Nat → Bool) (B0 : Value) (hl : n ≤ 1000000) (h : 0 < n → ∃ b off, A = some ⟨b, off, none⟩ ∧ b < w.heap.size ∧ ∀ j, j < n → w.cell? ⟨b, off + j * 3, none⟩ = some (E0 j) ∧ w.cell? ⟨b, off + j * 3 + 1, none⟩ = some (E1 j) ∧ w.cell? ⟨b, off + j * 3 + 2, none⟩ = some (E2 j))
  (hg : ∀ W, Below w.heap.size w W → ∀ j, j < n → Calls Tryz.prog 91 #[.agg #[E0 j, E1 j, E2 j], B0] W fun e w' => e = .returned (.bool (P j)) ∧ Below W.heap.size W w') :
  Calls Tryz.prog 90 #[.slice A n c, .func (.func 91) #[] #[B0]] w fun e w' => e = .returned (.bool (anyB n P)) ∧ Below w.heap.size w w' := by
 have k1 := Lib.hid (if_tou w A n c E0 E1 E2 P B0 hl h hg)
 clear h hg
 go_enter Tryz.func90, Tryz.ntmps90
 go_wp2_with fail
 refine k1.out.mono ?_
 rintro e w1 ⟨⟨i, rfl, hi⟩, hb1⟩
 have Hi := Lib.hid hi
 clear hi
 go_wp2
 go_ret
 exact ⟨bool_ret Hi.out, hb1⟩

set_option maxHeartbeats 1000000 in
theorem if_tin (w : World) (A : Option Addr) (n c : Nat) (E0 E1 : Nat → Value) (P : Nat → Bool) (B0 : Value) (hl : n ≤ 1000000) (h : 0 < n → ∃ b off, A = some ⟨b, off, none⟩ ∧ b < w.heap.size ∧ ∀ j, j < n → w.cell? ⟨b, off + j * 2, none⟩ = some (E0 j) ∧ w.cell? ⟨b, off + j * 2 + 1, none⟩ = some (E1 j))
  (hg : ∀ W, Below w.heap.size w W → ∀ j, j < n → Calls Tryz.prog 93 #[.agg #[E0 j, E1 j], B0] W fun e w' => e = .returned (.bool (P j)) ∧ Below W.heap.size W w') :
  Calls Tryz.prog 117 #[.slice A n c, .func (.func 93) #[] #[B0]] w fun e w' => (∃ i, e = .returned (.int .i64 i) ∧ decide (0 ≤ i) = anyB n P) ∧ Below w.heap.size w w' := by
 have HG := Lib.hid hg
 clear hg
 go_enter Tryz.func117, Tryz.ntmps117
 go_wp2
 go_loopw [8] (fun i wr => ∃ k : Nat, k ≤ n ∧ i = .int .i64 k ∧ Hid (anyB k P = false) ∧ Below w.heap.size w wr) (fun i _ => n - (intOf i).toNat)
 case atStart => exact ⟨0, by omega, rfl, Lib.hid rfl, Below.refl _ _⟩
 case round =>
  obtain ⟨k, hk, rfl, HB, hbel⟩ := hrel
  by_cases hlt : k < n
  ·obtain ⟨b, off, rfl, hb, hc⟩ := h (by omega)
   have hbz := hbel.size
   have d0 := (hbel.cell (p := ⟨b, off + k * 2, none⟩) hb).trans (hc k hlt).1
   have d1 := (hbel.cell (p := ⟨b, off + k * 2 + 1, none⟩) hb).trans (hc k hlt).2
   have hcl := HG.out wr hbel k hlt
   clear hc
   cases e1 : P k
   ·rw [e1] at hcl
    go_wp2_with fail
    refine hcl.mono ?_
    rintro e w2 ⟨rfl, hb2⟩
    have HB2 := Lib.hid (show Below w.heap.size w w2 from hbel.trans (hb2.mono hbz))
    clear hcl hb2
    go_wp2
    go_roundw
    case rel => exact ⟨k + 1, by omega, by go_num, Lib.hid (by rw [anyB_succ, HB.out]; exact e1), HB2.out⟩
    case measure => simp [intOf]; omega
   ·rw [e1] at hcl
    have HT := Lib.hid (anyB_true.2 ⟨k, hlt, e1⟩)
    go_wp2_with fail
    refine hcl.mono ?_
    rintro e w2 ⟨rfl, hb2⟩
    have HB2 := Lib.hid (show Below w.heap.size w w2 from hbel.trans (hb2.mono hbz))
    clear hcl hb2
    go_wp2
    go_ret
    refine ⟨⟨_, rfl, ?_⟩, HB2.out⟩
    rw [HT.out]
    simp
  ·have HF := Lib.hid (show anyB n P = false by rw [show n = k by omega]; exact HB.out)
   go_wp2
   go_ret
   refine ⟨⟨_, rfl, ?_⟩, hbel⟩
   rw [HF.out]
   rfl
set_option maxHeartbeats 1000000 in
theorem cf_tin (w : World) (A : Option Addr) (n c : Nat) (E0 E1 : Nat → Value) (P : Nat → Bool) (B0 : Value) (hl : n ≤ 1000000) (h : 0 < n → ∃ b off, A = some ⟨b, off, none⟩ ∧ b < w.heap.size ∧ ∀ j, j < n → w.cell? ⟨b, off + j * 2, none⟩ = some (E0 j) ∧ w.cell? ⟨b, off + j * 2 + 1, none⟩ = some (E1 j))
  (hg : ∀ W, Below w.heap.size w W → ∀ j, j < n → Calls Tryz.prog 93 #[.agg #[E0 j, E1 j], B0] W fun e w' => e = .returned (.bool (P j)) ∧ Below W.heap.size W w') :
  Calls Tryz.prog 92 #[.slice A n c, .func (.func 93) #[] #[B0]] w fun e w' => e = .returned (.bool (anyB n P)) ∧ Below w.heap.size w w' := by
 have k1 := Lib.hid (if_tin w A n c E0 E1 P B0 hl h hg)
 clear h hg
 go_enter Tryz.func92, Tryz.ntmps92
 go_wp2_with fail
 refine k1.out.mono ?_
 rintro e w1 ⟨⟨i, rfl, hi⟩, hb1⟩
 have Hi := Lib.hid hi
 clear hi
 go_wp2
 go_ret
 exact ⟨bool_ret Hi.out, hb1⟩

set_option maxHeartbeats 1000000 in
theorem if_hol (w : World) (A : Option Addr) (n c : Nat) (E0 : Nat → Value) (P : Nat → Bool) (B0 : Value) (hl : n ≤ 1000000) (h : 0 < n → ∃ b off, A = some ⟨b, off, none⟩ ∧ b < w.heap.size ∧ ∀ j, j < n → w.cell? ⟨b, off + j, none⟩ = some (E0 j))
  (hg : ∀ W, Below w.heap.size w W → ∀ j, j < n → Calls Tryz.prog 63 #[B0, E0 j] W fun e w' => e = .returned (.bool (P j)) ∧ Below W.heap.size W w') :
  Calls Tryz.prog 94 #[.slice A n c, .func (.func 63) #[B0] #[]] w fun e w' => (∃ i, e = .returned (.int .i64 i) ∧ decide (0 ≤ i) = anyB n P) ∧ Below w.heap.size w w' := by
 have HG := Lib.hid hg
 clear hg
 go_enter Tryz.func94, Tryz.ntmps94
 go_wp2
 go_loopw [8] (fun i wr => ∃ k : Nat, k ≤ n ∧ i = .int .i64 k ∧ Hid (anyB k P = false) ∧ Below w.heap.size w wr) (fun i _ => n - (intOf i).toNat)
 case atStart => exact ⟨0, by omega, rfl, Lib.hid rfl, Below.refl _ _⟩
 case round =>
  obtain ⟨k, hk, rfl, HB, hbel⟩ := hrel
  by_cases hlt : k < n
  ·obtain ⟨b, off, rfl, hb, hc⟩ := h (by omega)
   have hbz := hbel.size
   have d0 := (hbel.cell (p := ⟨b, off + k, none⟩) hb).trans (hc k hlt)
   have hcl := HG.out wr hbel k hlt
   clear hc
   cases e1 : P k
   ·rw [e1] at hcl
    go_wp2_with fail
    refine hcl.mono ?_
    rintro e w2 ⟨rfl, hb2⟩
    have HB2 := Lib.hid (show Below w.heap.size w w2 from hbel.trans (hb2.mono hbz))
    clear hcl hb2
    go_wp2
    go_roundw
    case rel => exact ⟨k + 1, by omega, by go_num, Lib.hid (by rw [anyB_succ, HB.out]; exact e1), HB2.out⟩
    case measure => simp [intOf]; omega
   ·rw [e1] at hcl
    have HT := Lib.hid (anyB_true.2 ⟨k, hlt, e1⟩)
    go_wp2_with fail
    refine hcl.mono ?_
    rintro e w2 ⟨rfl, hb2⟩
    have HB2 := Lib.hid (show Below w.heap.size w w2 from hbel.trans (hb2.mono hbz))
    clear hcl hb2
    go_wp2
    go_ret
    refine ⟨⟨_, rfl, ?_⟩, HB2.out⟩
    rw [HT.out]
    simp
  ·have HF := Lib.hid (show anyB n P = false by rw [show n = k by omega]; exact HB.out)
   go_wp2
   go_ret
   refine ⟨⟨_, rfl, ?_⟩, hbel⟩
   rw [HF.out]
   rfl
set_option maxHeartbeats 1000000 in
theorem cf_hol (w : World) (A : Option Addr) (n c : Nat) (E0 : Nat → Value) (P : Nat → Bool) (B0 : Value) (hl : n ≤ 1000000) (h : 0 < n → ∃ b off, A = some ⟨b, off, none⟩ ∧ b < w.heap.size ∧ ∀ j, j < n → w.cell? ⟨b, off + j, none⟩ = some (E0 j))
  (hg : ∀ W, Below w.heap.size w W → ∀ j, j < n → Calls Tryz.prog 63 #[B0, E0 j] W fun e w' => e = .returned (.bool (P j)) ∧ Below W.heap.size W w') :
  Calls Tryz.prog 62 #[.slice A n c, .func (.func 63) #[B0] #[]] w fun e w' => e = .returned (.bool (anyB n P)) ∧ Below w.heap.size w w' := by
 have k1 := Lib.hid (if_hol w A n c E0 P B0 hl h hg)
 clear h hg
 go_enter Tryz.func62, Tryz.ntmps62
 go_wp2_with fail
 refine k1.out.mono ?_
 rintro e w1 ⟨⟨i, rfl, hi⟩, hb1⟩
 have Hi := Lib.hid hi
 clear hi
 go_wp2
 go_ret
 exact ⟨bool_ret Hi.out, hb1⟩
end

section
open Go Go.RowKit
set_option linter.unusedVariables false

set_option maxHeartbeats 2000000 in
theorem tinClo_any (f : Fct) (s : Value) (ev ex : Int) (H : Nat) (w : World) (h : BxI w H 65 #[s, .int .i64 ev, .int .i64 ex]) :
  Calls Tryz.prog 93 #[.agg #[.int .i64 f.1, .int .i64 f.2], .pointer (some ⟨H, 0, none⟩)] w fun e w' => e = .returned (.bool (f.1 == ev)) ∧ Below w.heap.size w w' := by
 have d1 := h.cell 1 (.int .i64 ev) rfl
 have hl := h.lt
 clear h
 go_enter Tryz.func93, Tryz.ntmps93
 go_wp2
 go_ret
 exact ⟨rfl, by exact bel⟩
/-- Does one of the facts speak of the variable? -/
def tinB (p : List Fct) (v : Int) : Bool := anyB p.length fun i => fv p i == v
def tchB (o : Opr) (p : List Fct) : Bool := anyB o.effs.length fun j => tinB p (eff o.effs j).var
theorem tch_iff {o : Opr} {p : List Fct} : tchB o p = true ↔ Touch o p := by
 unfold tchB tinB Touch
 rw [anyB_true]
 constructor
 ·rintro ⟨j, hj, h⟩
  rw [anyB_true] at h
  obtain ⟨i, hi, h⟩ := h
  exact ⟨_, eff_mem hj, _, fct_mem hi, by simpa using h⟩
 ·rintro ⟨e, he, f, hf, h⟩
  obtain ⟨j, hj, rfl⟩ := mem_eff he
  obtain ⟨i, hi, rfl⟩ := mem_fct hf
  exact ⟨j, hj, anyB_true.2 ⟨i, hi, by simpa using h⟩⟩

set_option maxHeartbeats 4000000 in
theorem touClo_any (p : List Fct) (A : Option Addr) (c H : Nat) (S : Option Addr) (sn sc : Nat) (ev ex : Int) (w : World) (hp : FactsAt w w.heap.size A p) (hpl : p.length ≤ 1000000) (h : BxI w H 23 #[.slice A p.length c]) :
  Calls Tryz.prog 91 #[.agg #[.slice S sn sc, .int .i64 ev, .int .i64 ex], .pointer (some ⟨H, 0, none⟩)] w fun e w' => e = .returned (.bool (tinB p ev)) ∧ Below w.heap.size w w' := by
 obtain ⟨W1, hW1⟩ : ∃ W1, W1 = w.alloc (.cells #[.slice S sn sc, .int .i64 ev, .int .i64 ex] 65) := ⟨_, rfl⟩
 have HB1 := Lib.hid (show Below w.heap.size w W1 by rw [hW1]; exact (Below.refl _ _).alloc (Nat.le_refl _) _)
 have HX1 := Lib.hid (show BxI W1 w.heap.size 65 #[.slice S sn sc, .int .i64 ev, .int .i64 ex] by rw [hW1]; exact BxI.new _ _ _)
 have d0 := h.cell 0 (.slice A p.length c) rfl
 have hHl := h.lt
 have K := Lib.hid (cf_tin W1 A p.length c (fun j => .int .i64 (fv p j)) (fun j => .int .i64 (fx p j)) (fun j => fv p j == ev) (.pointer (some ⟨w.heap.size, 0, none⟩)) hpl
  (fun h0 => by
   obtain ⟨b, off, e, hb, hc⟩ := (hp.up HB1.out).2 h0
   exact ⟨b, off, e, hb, hc⟩)
  (fun W hW j hj => tinClo_any (fv p j, fx p j) (.slice S sn sc) ev ex w.heap.size W (HX1.out.up hW)))
 clear h hp
 go_enter Tryz.func91, Tryz.ntmps91
 go_wp2_with fail
 rw [← hW1]
 clear hW1
 refine K.out.mono ?_
 rintro e w2 ⟨rfl, hb2⟩
 have HB2 := Lib.hid (show Below w.heap.size w w2 from HB1.out.trans (hb2.mono HB1.out.size))
 clear hb2 K d0
 go_wp2
 go_ret
 exact ⟨rfl, HB2.out⟩

set_option maxHeartbeats 8000000 in
theorem touches_any (o : Opr) (p : List Fct) (A S T : Option Addr) (c sc tc : Nat) (w : World) (hp : FactsAt w w.heap.size A p) (hpl : p.length ≤ 1000000) (he : EffsAt w w.heap.size T o.effs) (hel : o.effs.length ≤ 1000000) :
  Calls Tryz.prog 61 #[.agg #[.string o.name, .int .i64 o.cost, .slice S o.pre.length sc, .slice T o.effs.length tc], .slice A p.length c] w fun e w' => e = .returned (.bool (tchB o p)) ∧ Below w.heap.size w w' := by
 obtain ⟨W0, hW0⟩ : ∃ W0, W0 = w.alloc (.cells #[.string o.name, .int .i64 o.cost, .slice S o.pre.length sc, .slice T o.effs.length tc] 63) := ⟨_, rfl⟩
 obtain ⟨W1, hW1⟩ : ∃ W1, W1 = W0.alloc (.cells #[.slice A p.length c] 23) := ⟨_, rfl⟩
 have hz0 : W0.heap.size = w.heap.size + 1 := by rw [hW0]; simp
 have HB0 := Lib.hid (show Below w.heap.size w W0 by rw [hW0]; exact (Below.refl _ _).alloc (Nat.le_refl _) _)
 have HB01 := Lib.hid (show Below W0.heap.size W0 W1 by rw [hW1]; exact (Below.refl _ _).alloc (Nat.le_refl _) _)
 have HB1 := Lib.hid (HB0.out.trans (HB01.out.mono HB0.out.size))
 have HX0 := Lib.hid (show BxI W1 w.heap.size 63 #[.string o.name, .int .i64 o.cost, .slice S o.pre.length sc, .slice T o.effs.length tc] from (show BxI W0 w.heap.size 63 _ by rw [hW0]; exact BxI.new _ _ _).up HB01.out)
 have HX1 := Lib.hid (show BxI W1 (w.heap.size + 1) 23 #[.slice A p.length c] by rw [hW1, ← hz0]; exact BxI.new _ _ _)
 have d3 := HX0.out.cell 3 (.slice T o.effs.length tc) rfl
 have hl0 := HX0.out.lt
 have K := Lib.hid (show Calls Tryz.prog 90 #[.slice T o.effs.length tc, .func (.func 91) #[] #[.pointer (some ⟨w.heap.size + 1, 0, none⟩)]] W1 (fun e w' => e = .returned (.bool (tchB o p)) ∧ Below W1.heap.size W1 w') from by
  have hE : EffsAt W1 W1.heap.size T o.effs := he.keep (fun q hq => HB1.out.cell hq) HB1.out.size
  by_cases h0 : 0 < o.effs.length
  ·obtain ⟨b, off, e, hb, hc⟩ := hE.2 h0
   refine cf_tou W1 T o.effs.length tc (fun j => (W1.cell? ⟨b, off + j * 3, none⟩).getD (.bool false)) (fun j => .int .i64 (eff o.effs j).var) (fun j => .int .i64 (eff o.effs j).val) (fun j => tinB p (eff o.effs j).var) (.pointer (some ⟨w.heap.size + 1, 0, none⟩)) hel (fun _ => ⟨b, off, e, hb, fun j hj => ?_⟩) (fun W hW j hj => ?_)
   ·obtain ⟨S', c', h1, h2, h3, h4⟩ := hc j hj
    exact ⟨by rw [h1]; rfl, h3, h4⟩
   ·obtain ⟨S', c', h1, h2, h3, h4⟩ := hc j hj
    rw [h1]
    exact touClo_any p A c (w.heap.size + 1) S' _ c' _ _ W ((hp.up HB1.out).up hW) hpl (HX1.out.up hW)
  ·have e0 : o.effs.length = 0 := by omega
   have := cf_tou W1 T o.effs.length tc (fun j => .bool false) (fun j => .int .i64 (eff o.effs j).var) (fun j => .int .i64 (eff o.effs j).val) (fun j => tinB p (eff o.effs j).var) (.pointer (some ⟨w.heap.size + 1, 0, none⟩)) hel (fun h => absurd h h0) (fun W hW j hj => absurd hj (by omega))
   exact this)
 clear hp he hz0
 go_enter Tryz.func61, Tryz.ntmps61
 go_wp2_with fail
 rw [← hW0, ← hW1]
 clear hW1 hW0
 refine K.out.mono ?_
 rintro e w2 ⟨rfl, hb2⟩
 have HB2 := Lib.hid (show Below w.heap.size w w2 from HB1.out.trans (hb2.mono HB1.out.size))
 clear hb2 K d3
 go_wp2
 go_ret
 exact ⟨rfl, HB2.out⟩
end

end Go.Proofs.YtlkebhiaimijiaaGreatDoor

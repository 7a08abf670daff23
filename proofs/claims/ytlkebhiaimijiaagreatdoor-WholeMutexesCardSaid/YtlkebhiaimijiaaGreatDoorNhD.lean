/- Texts laid together: VhG, VhH. -/
import Derived.Test.YtlkebhiaimijiaaGreatDoorBel
import Derived.Test.YtlkebhiaimijiaaGreatDoorNhC
import Derived.Test.YtlkebhiaimijiaaGreatDoorNgE
import Derived.Test.YtlkebhiaimijiaaGreatDoorNgL
import Derived.Test.YtlkebhiaimijiaaGreatDoorNgA
namespace Go.Proofs.YtlkebhiaimijiaaGreatDoor
set_option linter.unusedSimpArgs false
set_option linter.unusedVariables false
section
open Go Go.RowKit
set_option linter.unusedVariables false

/-- The table, read by facts. -/
def rF (vars : List Int) (M : Nat → Nat → Bool) (a b : Fct) : Bool := M (numF vars a) (numF vars b)
def fcA2 (p : List Fct) (k : Nat) : Fct := (fv p k, fx p k)
def hldI (R : Fct → Fct → Bool) (p : List Fct) (i n : Nat) : Bool := anyB n fun j => !R (fcA2 p i) (fcA2 p j)
def hldB (R : Fct → Fct → Bool) (p : List Fct) : Bool := !anyB p.length fun i => hldI R p i (i + 1)
theorem hldB_iff {vars : List Int} {R : Fct → Fct → Bool} {p : List Fct} (hs : ∀ a b, IsF vars a → IsF vars b → R a b = R b a) (hp : ∀ x ∈ p, IsF vars x) : hldB R p = true ↔ HoldR R p := by
 unfold hldB
 rw [Bool.not_eq_true', anyB_false]
 constructor
 ·intro h x hx y hy
  obtain ⟨i, hi, rfl⟩ := mem_fct hx
  obtain ⟨j, hj, rfl⟩ := mem_fct hy
  have key : ∀ i j, i < p.length → j ≤ i → R (fcA2 p i) (fcA2 p j) = true := fun i j hi hj => by
   have h1 := h i hi
   unfold hldI at h1
   rw [anyB_false] at h1
   simpa using h1 j (by omega)
  rcases Nat.le_total j i with h1 | h1
  ·exact key i j hi h1
  ·rw [hs _ _ (hp _ hx) (hp _ hy)]; exact key j i hj h1
 ·intro h i hi
  unfold hldI
  rw [anyB_false]
  intro j hj
  have := h _ (fct_mem hi) _ (fct_mem (show j < p.length by omega))
  unfold fcA2
  rw [this]; rfl

set_option maxRecDepth 20000 in
set_option maxHeartbeats 16000000 in
theorem tholds_any {B X fc rc g : Nat} {t : Tsk} {q : Lies} {fa ra : Option Addr} {rb : Nat → Nat} {M : Nat → Nat → Bool} (hd : ∀ k, k < t.vars.length → 1 ≤ nth t.vars k ∧ nth t.vars k ≤ 64) (hn : t.vars.length ≤ 64) (p : List Fct) (A : Option Addr) (c : Nat) (hp : ∀ x ∈ p, IsF t.vars x) (w : World) (h : TblAt w B X t q fa fc ra rc g rb M) (hA : FactsAt w w.heap.size A p) (hpl : p.length ≤ 100000) (hcp : p.length ≤ c) :
  Calls Tryz.prog 63 #[.pointer (some ⟨X, 0, none⟩), .slice A p.length c] w fun e w' => e = .returned (.bool (hldB (rF t.vars M) p)) ∧ Below w.heap.size w w' := by
 have HT := Lib.hid h
 have HP := Lib.hid hp
 have HA := Lib.hid hA
 have HIS := Lib.hid (fun (a b : Fct) (ha : a ∈ p) (hb : b ∈ p) W (k : Below w.heap.size w W) => tis_any hd hn a b (hp a ha) (hp b hb) W (h.up k))
 clear h hp hA hd
 go_enter Tryz.func63, Tryz.ntmps63
 go_wp2_with fail
 go_loopw [11] (fun v11 wr => ∃ i : Nat, v11 = .int .i64 i ∧ i ≤ p.length ∧ Hid (∀ k, k < i → hldI (rF t.vars M) p k (k + 1) = false) ∧ Hid (Below w.heap.size w wr)) (fun v11 _ => p.length - (intOf v11).toNat)
 case atStart => exact ⟨0, rfl, by omega, Lib.hid fun k hk => by omega, Lib.hid (Below.refl _ _)⟩
 case round =>
  obtain ⟨i, rfl, hi, HN, HB⟩ := hrel
  obtain ⟨wt, rfl⟩ : ∃ wt : World, wt = wr := ⟨_, rfl⟩
  have hwt := HB.out.size
  by_cases hlt : i < p.length
  ·obtain ⟨ab, ao, rfl, hab, hac⟩ := HA.out.at_ hlt
   have hcell : ∀ W, Below w.heap.size w W → ∀ k, k < p.length → W.cell? ⟨ab, ao + k * 2, none⟩ = some (.int .i64 (fv p k)) ∧ W.cell? ⟨ab, ao + k * 2 + 1, none⟩ = some (.int .i64 (fx p k)) := fun W hW k hk => ⟨(hW.cell (p := ⟨ab, _, none⟩) hab).trans (hac k hk).1, (hW.cell (p := ⟨ab, _, none⟩) hab).trans (hac k hk).2⟩
   have HC := Lib.hid hcell
   obtain ⟨d0, d1⟩ := hcell wt HB.out i hlt
   obtain ⟨v, hv⟩ : ∃ v, v = fv p i := ⟨_, rfl⟩
   obtain ⟨x, hx⟩ : ∃ x, x = fx p i := ⟨_, rfl⟩
   rw [← hv] at d0
   rw [← hx] at d1
   have HVX := Lib.hid (And.intro hv hx)
   obtain ⟨NB, hNB⟩ : ∃ NB, NB = wt.heap.size := ⟨_, rfl⟩
   obtain ⟨W5, hW5⟩ : ∃ W5, W5 = wt.alloc (.cells #[.int .i64 v, .int .i64 x] 68) := ⟨_, rfl⟩
   have HB5 := Lib.hid (show Below wt.heap.size wt W5 by rw [hW5]; exact (Below.refl _ _).alloc (Nat.le_refl _) _)
   have HX5 := Lib.hid (show BxI W5 NB 68 #[.int .i64 v, .int .i64 x] by rw [hW5, hNB]; exact BxI.new _ _ _)
   have HBw5 := Lib.hid (HB.out.trans (HB5.out.mono hwt))
   have hi1 : ((i : Int) + 1) ≤ p.length := by omega
   clear hcell hac hv hx
   go_wp2_with fail
   rw [← hW5, ← hNB]
   have HW5 := Lib.hid (And.intro hW5 hNB)
   clear hW5 hNB d0 d1
   go_loopw [21] (fun v21 wr => ∃ j : Nat, v21 = .int .i64 j ∧ j ≤ i + 1 ∧ Hid (∀ k, k < j → rF t.vars M (fcA2 p i) (fcA2 p k) = true) ∧ Hid (Below W5.heap.size W5 wr)) (fun v21 _ => i + 1 - (intOf v21).toNat)
   case atStart => exact ⟨0, rfl, by omega, Lib.hid fun k hk => by omega, Lib.hid (Below.refl _ _)⟩
   case round =>
    obtain ⟨j, rfl, hj, HR, HB2⟩ := hrel
    obtain ⟨wu, rfl⟩ : ∃ wu : World, wu = wr := ⟨_, rfl⟩
    have hwu := HB2.out.size
    have HBu := Lib.hid (HBw5.out.trans (HB2.out.mono HBw5.out.size))
    by_cases hlj : j < i + 1
    ·obtain ⟨e0, e1⟩ := HC.out wu HBu.out j (by omega)
     obtain ⟨y, hy⟩ : ∃ y, y = fv p j := ⟨_, rfl⟩
     obtain ⟨z, hz⟩ : ∃ z, z = fx p j := ⟨_, rfl⟩
     rw [← hy] at e0
     rw [← hz] at e1
     have f0 := (HX5.out.up HB2.out).cell 0 (.int .i64 v) rfl
     have f1 := (HX5.out.up HB2.out).cell 1 (.int .i64 x) rfl
     have hNl := (HX5.out.up HB2.out).lt
     have habu : ab < wu.heap.size := Nat.lt_of_lt_of_le hab HBu.out.size
     obtain ⟨W6, hW6⟩ : ∃ W6, W6 = wu.alloc (.cells #[.int .i64 y, .int .i64 z] 68) := ⟨_, rfl⟩
     have HB6 := Lib.hid (show Below wu.heap.size wu W6 by rw [hW6]; exact (Below.refl _ _).alloc (Nat.le_refl _) _)
     have HBw6 := Lib.hid (HBu.out.trans (HB6.out.mono HBu.out.size))
     have HIJ := Lib.hid (show Calls Tryz.prog 52 #[.pointer (some ⟨X, 0, none⟩), .agg #[.int .i64 v, .int .i64 x], .agg #[.int .i64 y, .int .i64 z]] W6 fun e w' => e = .returned (.bool (rF t.vars M (fcA2 p i) (fcA2 p j))) ∧ Below W6.heap.size W6 w' by
      rw [HVX.out.1, HVX.out.2, hy, hz]
      exact HIS.out (fcA2 p i) (fcA2 p j) (fct_mem hlt) (fct_mem (by omega)) W6 HBw6.out)
     clear hy hz
     go_wp2_with fail
     rw [← hW6]
     have HW6 := Lib.hid hW6
     clear hW6 e0 e1 f0 f1
     refine HIJ.out.mono ?_
     rintro e w7 ⟨rfl, hb7⟩
     have HB7 := Lib.hid (show Below W5.heap.size W5 w7 from HB2.out.trans ((HB6.out.trans (hb7.mono HB6.out.size)).mono hwu))
     obtain ⟨r, hr⟩ : ∃ r, r = rF t.vars M (fcA2 p i) (fcA2 p j) := ⟨_, rfl⟩
     rw [← hr]
     have HRR := Lib.hid hr
     clear hr hb7
     cases r
     ·go_wp2
      go_ret
      have e : hldB (rF t.vars M) p = false := by
       unfold hldB
       cases ea : anyB p.length fun i => hldI (rF t.vars M) p i (i + 1)
       ·rw [anyB_false] at ea
        have h1 := ea i hlt
        unfold hldI at h1
        rw [anyB_false] at h1
        have h2 := h1 j hlj
        rw [← HRR.out] at h2; cases h2
       ·rfl
      rw [e]
      exact ⟨rfl, HBw5.out.trans (HB7.out.mono HBw5.out.size)⟩
     ·go_wp2
      go_roundw
      case rel => exact ⟨j + 1, by go_num, by omega, Lib.hid (fun k hk => by
       rcases Nat.lt_or_ge k j with h | h
       ·exact HR.out k h
       ·have : k = j := by omega
        subst this; exact HRR.out.symm), HB7⟩
      case measure => simp [intOf]; omega
    ·have HN2 := Lib.hid (show ∀ k, k < i + 1 → hldI (rF t.vars M) p k (k + 1) = false from fun k hk => by
      rcases Nat.lt_or_ge k i with h | h
      ·exact HN.out k h
      ·have : k = i := by omega
       subst this
       unfold hldI
       rw [anyB_false]
       exact fun m hm => by rw [HR.out m (by omega)]; rfl)
     go_wp2
     go_roundw
     case rel => exact ⟨i + 1, by go_num, by omega, HN2, HBu⟩
     case measure => simp [intOf]; omega
  ·go_wp2
   go_ret
   have e : hldB (rF t.vars M) p = true := by
    unfold hldB
    rw [Bool.not_eq_true', anyB_false]
    exact fun k hk => HN.out k (by omega)
   rw [e]
   exact ⟨rfl, HB.out⟩
end

section
open Go Go.RowKit
set_option linter.unusedVariables false

section
variable {B X fc rc g : Nat} {t : Tsk} {q : Lies} {fa ra : Option Addr} {rb : Nat → Nat} {M : Nat → Nat → Bool}
set_option maxHeartbeats 1000000 in
theorem tmutex_any (hd : ∀ k, k < t.vars.length → 1 ≤ nth t.vars k ∧ nth t.vars k ≤ 64) (hn : t.vars.length ≤ 64) (p : List Fct) (A : Option Addr) (c : Nat) (hp : ∀ x ∈ p, IsF t.vars x) (w : World) (h : TblAt w B X t q fa fc ra rc g rb M) (hA : FactsAt w w.heap.size A p) (hpl : p.length ≤ 100000) (hcp : p.length ≤ c) :
  Calls Tryz.prog 29 #[.pointer (some ⟨X, 0, none⟩), .slice A p.length c] w fun e w' => e = .returned (.bool (!hldB (rF t.vars M) p)) ∧ Below w.heap.size w w' := by
 have K := Lib.hid (tholds_any hd hn p A c hp w h hA hpl hcp)
 clear h hA hd hp
 go_enter Tryz.func29, Tryz.ntmps29
 go_wp2_with fail
 refine K.out.mono ?_
 rintro e w1 ⟨rfl, hb1⟩
 go_wp2
 go_ret
 exact ⟨rfl, hb1⟩
set_option maxRecDepth 20000 in
set_option maxHeartbeats 4000000 in
theorem thas_any (a : Fct) (w : World) (h : TblAt w B X t q fa fc ra rc g rb M) :
  Calls Tryz.prog 51 #[.pointer (some ⟨X, 0, none⟩), .agg #[.int .i64 a.1, .int .i64 a.2]] w fun e w' => e = .returned (.bool (faB t.vars [a])) ∧ Below w.heap.size w w' := by
 obtain ⟨W1, hW1⟩ : ∃ W1, W1 = w.alloc (.cells #[.int .i64 a.1, .int .i64 a.2] 68) := ⟨_, rfl⟩
 have hb1 : Below w.heap.size w W1 := by rw [hW1]; exact (Below.refl _ _).alloc (Nat.le_refl _) _
 have hx1 : BxI W1 w.heap.size 68 #[.int .i64 a.1, .int .i64 a.2] := by rw [hW1]; exact BxI.new _ _ _
 have HT := Lib.hid (h.up hb1)
 have HB := Lib.hid hb1
 have x0 := HT.out.box.cell 0 (.slice q.av t.vars.length q.cv) rfl
 have hXl := HT.out.box.lt
 have f0 := hx1.cell 0 (.int .i64 a.1) rfl
 have f1 := hx1.cell 1 (.int .i64 a.2) rfl
 have hfl := hx1.lt
 have KF := Lib.hid (fun (H : Nat) W (k : Below W1.heap.size W1 W) (hH : BxI W H 68 #[.int .i64 a.1, .int .i64 a.2]) => facts_any t.vars [a] q.av (some ⟨H, 0, none⟩) q.cv 1 W ((HT.out.up k).tsk.vars.keep (fun _ _ => rfl) (HT.out.up k).le) (factsAt_one hH.lt (hH.cell 0 _ rfl) (hH.cell 1 _ rfl)))
 clear h hx1 hb1
 go_enter Tryz.func51, Tryz.ntmps51
 go_wp2_with fail
 rw [← hW1]
 have HW := Lib.hid hW1
 clear hW1
 refine wp_region_G 7 (fun w' => ∀ b o, w'.cell? ⟨b, o, none⟩ = if b < W1.heap.size then W1.cell? ⟨b, o, none⟩ else hidC w' b o) (by kernel_rfl) (cif (B := W1.heap.size) (W := W1) (Below.refl _ _).drew) ?_
 intro hG0
 refine wpS1 0 hG0 ?_; intro hG1; clear hG0
 refine wpS1 1 hG1 ?_; intro hG2; clear hG1
 refine wpS1 2 hG2 ?_; intro hG3; clear hG2
 refine wpS1 3 hG3 ?_; intro hG4; clear hG3
 refine wpS2 4 hG4 ?_; intro hG5; clear hG4
 refine wpS2 5 hG5 ?_; intro hG6; clear hG5
 refine wpAnyG_ready (rs := [6]) (by kernel_rfl) (by simp) (AllG.cons rfl hG6 (fun K hK => ?_) AllG.nil)
 (go_simp)
 refine hK.out _ _ (Or.inr (cif (by exact bel))) (fun hG7 => wpN ?_); clear hK hG6
 refine wpAnyG_ready (rs := [7]) (by kernel_rfl) (by simp) (AllG.cons rfl hG7 (fun K hK => ?_) AllG.nil)
 (go_simp; go_at_call 56; refine (KF.out W1.heap.size _ (by exact bel) (BxI.new W1.drew 68 #[.int .i64 a.1, .int .i64 a.2])).mono ?_; rintro e w3 ⟨rfl, hb3⟩; have hB3 : Below W1.heap.size W1 w3 := ((Below.refl _ _).drew.alloc (Nat.le_refl _) _).trans (hb3.mono (by simp)); clear hb3)
 refine hK.out _ _ (Or.inl rfl) (fun hG8 => wpN ?_); clear hK hG7
 refine wpS1 8 hG8 ?_; intro hG9; clear hG8
 refine wpAnyG_done (by kernel_rfl) ?_ _; clear hG9
 go_wp2
 go_ret
 exact ⟨rfl, HB.out.trans (hB3.mono HB.out.size)⟩
set_option maxRecDepth 20000 in
set_option maxHeartbeats 4000000 in
theorem treached_any (hd : ∀ k, k < t.vars.length → 1 ≤ nth t.vars k ∧ nth t.vars k ≤ 64) (hn : t.vars.length ≤ 64) (a : Fct) (ha : IsF t.vars a) (hfa : faB t.vars [a] = true) (w : World) (h : TblAt w B X t q fa fc ra rc g rb M) :
  Calls Tryz.prog 23 #[.pointer (some ⟨X, 0, none⟩), .agg #[.int .i64 a.1, .int .i64 a.2]] w fun e w' => e = .returned (.bool (rF t.vars M a a)) ∧ Below w.heap.size w w' := by
 obtain ⟨W1, hW1⟩ : ∃ W1, W1 = w.alloc (.cells #[.int .i64 a.1, .int .i64 a.2] 68) := ⟨_, rfl⟩
 have hb1 : Below w.heap.size w W1 := by rw [hW1]; exact (Below.refl _ _).alloc (Nat.le_refl _) _
 have hx1 : BxI W1 w.heap.size 68 #[.int .i64 a.1, .int .i64 a.2] := by rw [hW1]; exact BxI.new _ _ _
 have HT := Lib.hid (h.up hb1)
 have HB := Lib.hid hb1
 have HX := Lib.hid hx1
 have f0 := hx1.cell 0 (.int .i64 a.1) rfl
 have f1 := hx1.cell 1 (.int .i64 a.2) rfl
 have hfl := hx1.lt
 have KH := thas_any a W1 HT.out
 rw [hfa] at KH
 have KH := Lib.hid KH
 have KI := Lib.hid (fun W (k : Below W1.heap.size W1 W) => tis_any hd hn a a ha ha W (HT.out.up k))
 clear h hx1 hb1 hfa hd
 go_enter Tryz.func23, Tryz.ntmps23
 go_wp2_with fail
 rw [← hW1]
 have HW := Lib.hid hW1
 clear hW1
 refine KH.out.mono ?_
 rintro e w2 ⟨rfl, hb2⟩
 have hx2 := HX.out.up hb2
 clear f0 f1 hfl
 have f0 := hx2.cell 0 (.int .i64 a.1) rfl
 have f1 := hx2.cell 1 (.int .i64 a.2) rfl
 have hfl := hx2.lt
 have KI2 := Lib.hid (KI.out w2 hb2)
 have HB2 := Lib.hid (HB.out.trans (hb2.mono HB.out.size))
 clear hb2 hx2
 go_wp2_with fail
 refine KI2.out.mono ?_
 rintro e w3 ⟨rfl, hb3⟩
 go_wp2
 go_ret
 exact ⟨rfl, HB2.out.trans (hb3.mono HB2.out.size)⟩
end
end

end Go.Proofs.YtlkebhiaimijiaaGreatDoor

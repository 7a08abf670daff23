/- Texts laid together: VeA, VeB. -/
import Derived.Test.YtlkebhiaimijiaaGreatDoorVcD
namespace Go.Proofs.YtlkebhiaimijiaaGreatDoor
set_option linter.unusedSimpArgs false
set_option linter.unusedVariables false
section
open Go Go.RowKit
set_option linter.unusedVariables false

set_option maxHeartbeats 1000000 in
theorem if_nog (w : World) (A : Option Addr) (n c : Nat) (E0 E1 : Nat → Value) (P : Nat → Bool) (B0 : Value) (hl : n ≤ 1000000) (h : 0 < n → ∃ b off, A = some ⟨b, off, none⟩ ∧ b < w.heap.size ∧ ∀ j, j < n → w.cell? ⟨b, off + j * 2, none⟩ = some (E0 j) ∧ w.cell? ⟨b, off + j * 2 + 1, none⟩ = some (E1 j))
  (hg : ∀ W, Below w.heap.size w W → ∀ j, j < n → Calls Tryz.prog 69 #[.agg #[E0 j, E1 j], B0] W fun e w' => e = .returned (.bool (P j)) ∧ Below W.heap.size W w') :
  Calls Tryz.prog 96 #[.slice A n c, .func (.func 69) #[] #[B0]] w fun e w' => (∃ i, e = .returned (.int .i64 i) ∧ decide (0 ≤ i) = anyB n P) ∧ Below w.heap.size w w' := by
 have HG := Lib.hid hg
 clear hg
 go_enter Tryz.func96, Tryz.ntmps96
 go_wp2
 go_loopw [8] (fun i wr => ∃ k : Nat, k ≤ n ∧ i = .int .i64 k ∧ Hid (anyB k P = false) ∧ Below w.heap.size w wr) (fun i _ => n - (intOf i).toNat)
 case atStart => exact ⟨0, by omega, rfl, Lib.hid rfl, Below.refl _ _⟩
 case round =>
  obtain ⟨k, hk, rfl, HB, hbel⟩ := hrel
  by_cases hlt : k < n
  ·obtain ⟨b, off, rfl, hb, hc⟩ := h (by omega)
   have hbz := hbel.size
   have d0 := (hbel.cell (p := ⟨b, off + k * 2, none⟩) hb).trans (hc k hlt).1
   have d1 := (hbel.cell (p := ⟨b, off + k * 2 + 1, none⟩) hb).trans (hc k hlt).2
   have hcl := HG.out wr hbel k hlt
   clear hc
   cases e1 : P k
   ·rw [e1] at hcl
    go_wp2_with fail
    refine hcl.mono ?_
    rintro e w2 ⟨rfl, hb2⟩
    have HB2 := Lib.hid (show Below w.heap.size w w2 from hbel.trans (hb2.mono hbz))
    clear hcl hb2
    go_wp2
    go_roundw
    case rel => exact ⟨k + 1, by omega, by go_num, Lib.hid (by rw [anyB_succ, HB.out]; exact e1), HB2.out⟩
    case measure => simp [intOf]; omega
   ·rw [e1] at hcl
    have HT := Lib.hid (anyB_true.2 ⟨k, hlt, e1⟩)
    go_wp2_with fail
    refine hcl.mono ?_
    rintro e w2 ⟨rfl, hb2⟩
    have HB2 := Lib.hid (show Below w.heap.size w w2 from hbel.trans (hb2.mono hbz))
    clear hcl hb2
    go_wp2
    go_ret
    refine ⟨⟨_, rfl, ?_⟩, HB2.out⟩
    rw [HT.out]
    simp
  ·have HF := Lib.hid (show anyB n P = false by rw [show n = k by omega]; exact HB.out)
   go_wp2
   go_ret
   refine ⟨⟨_, rfl, ?_⟩, hbel⟩
   rw [HF.out]
   rfl
set_option maxHeartbeats 1000000 in
theorem cf_nog (w : World) (A : Option Addr) (n c : Nat) (E0 E1 : Nat → Value) (P : Nat → Bool) (B0 : Value) (hl : n ≤ 1000000) (h : 0 < n → ∃ b off, A = some ⟨b, off, none⟩ ∧ b < w.heap.size ∧ ∀ j, j < n → w.cell? ⟨b, off + j * 2, none⟩ = some (E0 j) ∧ w.cell? ⟨b, off + j * 2 + 1, none⟩ = some (E1 j))
  (hg : ∀ W, Below w.heap.size w W → ∀ j, j < n → Calls Tryz.prog 69 #[.agg #[E0 j, E1 j], B0] W fun e w' => e = .returned (.bool (P j)) ∧ Below W.heap.size W w') :
  Calls Tryz.prog 68 #[.slice A n c, .func (.func 69) #[] #[B0]] w fun e w' => e = .returned (.bool (anyB n P)) ∧ Below w.heap.size w w' := by
 have k1 := Lib.hid (if_nog w A n c E0 E1 P B0 hl h hg)
 clear h hg
 go_enter Tryz.func68, Tryz.ntmps68
 go_wp2_with fail
 refine k1.out.mono ?_
 rintro e w1 ⟨⟨i, rfl, hi⟩, hb1⟩
 have Hi := Lib.hid hi
 clear hi
 go_wp2
 go_ret
 exact ⟨bool_ret Hi.out, hb1⟩
end

section
open Go Go.RowKit
set_option linter.unusedVariables false

set_option maxHeartbeats 4000000 in
theorem ccClo_any (x : List Fct) (n : Ngd) (A : Option Addr) (c B : Nat) (w : World) (h1 : FactsAt w w.heap.size A x) (h2 : FactsAt w w.heap.size n.a n.l) (hb : w.cell? ⟨B, 0, none⟩ = some (.slice A x.length c)) (hB : B < w.heap.size) (hv : vaB x = true) (hn : vaB n.l = true) :
  Calls Tryz.prog 69 #[.agg #[.slice n.a n.l.length n.c, .int .i64 n.d], .pointer (some ⟨B, 0, none⟩)] w fun e w' => e = .returned (.bool (cnB x n.l)) ∧ Below w.heap.size w w' := by
 obtain ⟨W1, hW1⟩ : ∃ W1, W1 = w.alloc (.cells #[.slice n.a n.l.length n.c, .int .i64 n.d] 97) := ⟨_, rfl⟩
 have HB1 := Lib.hid (show Below w.heap.size w W1 by rw [hW1]; exact (Below.refl _ _).alloc (Nat.le_refl _) _)
 have K := Lib.hid (pcontains_any x n.l A n.a c n.c W1 (h1.up HB1.out) (h2.up HB1.out))
 rw [show ctB x n.l = cnB x n.l by unfold ctB; simp [hv, hn]] at K
 have hnl : n.l.length ≤ 140737488355328 := h2.1
 clear h1 h2
 go_enter Tryz.func69, Tryz.ntmps69
 go_wp2_with fail
 rw [← hW1]
 clear hW1
 refine K.out.mono ?_
 rintro e w2 ⟨rfl, hb2⟩
 have HB2 := Lib.hid (show Below w.heap.size w w2 from HB1.out.trans (hb2.mono HB1.out.size))
 clear hb2 K
 go_wp2
 go_ret
 exact ⟨rfl, HB2.out⟩
/-- Is one of the nogoods in it? -/
def ccB (x : List Fct) (ns : List Ngd) : Bool := anyB ns.length fun j => cnB x (ng ns j).l
theorem cc_iff {vars : List Int} {x : List Fct} {ns : List Ngd} (hx : faB vars x = true) (hn : ∀ m ∈ ns, faB vars m.l = true) : ccB x ns = true ↔ ∃ m ∈ ns, Sub m.l x := by
 unfold ccB
 rw [anyB_true]
 constructor
 ·rintro ⟨k, hk, h⟩
  exact ⟨_, ng_mem hk, (cn_iff (fa_asc hx) (fa_pos (hn _ (ng_mem hk)))).1 h⟩
 ·rintro ⟨m, hm, h⟩
  obtain ⟨k, hk, rfl⟩ := mem_ng hm
  exact ⟨k, hk, (cn_iff (fa_asc hx) (fa_pos (hn _ hm))).2 h⟩

set_option maxHeartbeats 4000000 in
theorem ccont_any (vars : List Int) (x : List Fct) (ns : List Ngd) (A N : Option Addr) (c nc : Nat) (w : World) (h1 : FactsAt w w.heap.size A x) (h2 : Nls w (fun _ => False) N ns) (hx : faB vars x = true) (hn : ∀ m ∈ ns, faB vars m.l = true) :
  Calls Tryz.prog 36 #[.slice A x.length c, .slice N ns.length nc] w fun e w' => e = .returned (.bool (ccB x ns)) ∧ Below w.heap.size w w' := by
 obtain ⟨W1, hW1⟩ : ∃ W1, W1 = w.alloc (.cells #[.slice A x.length c] 23) := ⟨_, rfl⟩
 have HB1 := Lib.hid (show Below w.heap.size w W1 by rw [hW1]; exact (Below.refl _ _).alloc (Nat.le_refl _) _)
 have HX1 := Lib.hid (show BxI W1 w.heap.size 23 #[.slice A x.length c] by rw [hW1]; exact BxI.new _ _ _)
 have hln := h2.len
 have K := Lib.hid (cf_nog W1 N ns.length nc (fun j => .slice (ng ns j).a (ng ns j).l.length (ng ns j).c) (fun j => .int .i64 (ng ns j).d) (fun j => cnB x (ng ns j).l) (.pointer (some ⟨w.heap.size, 0, none⟩)) hln
  (fun h0 => by
   obtain ⟨b, off, e, hb, _, hc⟩ := (h2.up HB1.out).2.1 h0
   exact ⟨b, off, e, hb, hc⟩)
  (fun W hW j hj => ccClo_any x (ng ns j) A c w.heap.size W (h1.up (HB1.out.trans (hW.mono HB1.out.size))) (((h2.up HB1.out).up hW).fac hj).at_ ((HX1.out.up hW).cell 0 _ rfl) (HX1.out.up hW).lt (fa_va hx) (fa_va (hn _ (ng_mem hj)))))
 clear h1 h2 hx hn
 go_enter Tryz.func36, Tryz.ntmps36
 go_wp2_with fail
 rw [← hW1]
 clear hW1
 refine K.out.mono ?_
 rintro e w2 ⟨rfl, hb2⟩
 have HB2 := Lib.hid (show Below w.heap.size w w2 from HB1.out.trans (hb2.mono HB1.out.size))
 clear hb2 K
 go_wp2
 go_ret
 exact ⟨rfl, HB2.out⟩
end

end Go.Proofs.YtlkebhiaimijiaaGreatDoor

/- sexpr: the reader's box; step. -/
import Derived.Test.YtebgaicapjpohaaDoorSeM
import Derived.BigQuiet
namespace Go.Proofs.YtebgaicapjpohaaDoor
set_option linter.unusedSimpArgs false
set_option linter.unusedVariables false
open Go Go.RowKit
set_option linter.unusedVariables false

/-- The reader's box. -/
abbrev RdX (w : World) (R : Nat) (S : ByteArray) (at_ l c n : Int) (O : Value) : Prop := BxI w R 44 #[.string S, .int .i64 at_, .int .i64 l, .int .i64 c, .int .i64 n, O]

section
variable {w : World} {R : Nat} {S : ByteArray} {at_ l c n : Int} {O : Value}
theorem RdX.c0 (h : RdX w R S at_ l c n O) : w.cell? ⟨R, 0, none⟩ = some (.string S) := h.cell 0 _ rfl
theorem RdX.c1 (h : RdX w R S at_ l c n O) : w.cell? ⟨R, 1, none⟩ = some (.int .i64 at_) := h.cell 1 _ rfl
theorem RdX.c2 (h : RdX w R S at_ l c n O) : w.cell? ⟨R, 2, none⟩ = some (.int .i64 l) := h.cell 2 _ rfl
theorem RdX.c3 (h : RdX w R S at_ l c n O) : w.cell? ⟨R, 3, none⟩ = some (.int .i64 c) := h.cell 3 _ rfl
theorem RdX.c4 (h : RdX w R S at_ l c n O) : w.cell? ⟨R, 4, none⟩ = some (.int .i64 n) := h.cell 4 _ rfl
theorem RdX.s1 (h : RdX w R S at_ l c n O) (x : Int) : RdX (w.setCell ⟨R, 1, none⟩ (.int .i64 x)) R S x l c n O := h.set 1 _
theorem RdX.s2 (h : RdX w R S at_ l c n O) (x : Int) : RdX (w.setCell ⟨R, 2, none⟩ (.int .i64 x)) R S at_ x c n O := h.set 2 _
theorem RdX.s3 (h : RdX w R S at_ l c n O) (x : Int) : RdX (w.setCell ⟨R, 3, none⟩ (.int .i64 x)) R S at_ l x n O := h.set 3 _
theorem RdX.s4 (h : RdX w R S at_ l c n O) (x : Int) : RdX (w.setCell ⟨R, 4, none⟩ (.int .i64 x)) R S at_ l c x O := h.set 4 _
theorem RdX.s5 (h : RdX w R S at_ l c n O) (x : Value) : RdX (w.setCell ⟨R, 5, none⟩ x) R S at_ l c n x := h.set 5 _
theorem RdX.c5 (h : RdX w R S at_ l c n O) : w.cell? ⟨R, 5, none⟩ = some O := h.cell 5 _ rfl
end

set_option maxHeartbeats 2000000 in
theorem step_any (R : Nat) (s : List UInt8) (k : Nat) (l c n : Int) (O : Value) (w : World) (hb : RdX w R (bs s) k l c n O) (hk : k < s.length) (hs : s.length ≤ 65536) (hl : 0 ≤ l) (hl2 : l ≤ 100000) (hc : 0 ≤ c) (hc2 : c ≤ 100000) :
    Calls Tryd.prog 20 #[.pointer (some ⟨R, 0, none⟩)] w fun e w' => e = .returned (.tuple #[]) ∧ RdX w' R (bs s) (k + 1 : Nat) (stepP (bt s k) (l, c)).1 (stepP (bt s k) (l, c)).2 n O ∧ Kb (fun g => g = R) w w' := by
  have hz := bs_size s
  have c0 := RdX.c0 hb
  have c1 := RdX.c1 hb
  have c2 := RdX.c2 hb
  have c3 := RdX.c3 hb
  have f1 := hb.fz 1
  have f2 := hb.fz 2
  have f3 := hb.fz 3
  have hg := bs_get s k (by omega)
  obtain ⟨S, hS⟩ : ∃ S, bs s = S := ⟨_, rfl⟩
  rw [hS] at hb hz c0
  have hlt : k < S.size := by omega
  have hg' : S[k] = bt s k := by subst hS; exact hg
  rw [hS]
  clear hg hS
  have HB := Lib.hid hb
  by_cases h10 : S[k].toNat = 10
  · have HE := Lib.hid (show stepP (bt s k) (l, c) = (l + 1, 1) by
      unfold stepP; rw [if_pos (by rw [← hg']; exact UInt8.toNat_inj.1 h10)])
    have hd : decide ((S[k].toNat : Int) = 10) = true := by simp; omega
    clear hb hg'
    go_enter Tryd.func20, Tryd.ntmps20
    go_wp2_with fail
    go_quiet (fail)
    go_wp2
    refine bodyPost_end (results_none rfl _ _ _) rfl ⟨rfl, ?_, ?_⟩
    · rw [HE.out]
      exact (((HB.out.s2 (l + 1)).s3 0).s1 ((k : Int) + 1)).s3 1
    · exact ((((show Kb (fun g => g = R) w (w.drewN nq) from Kb.of_below (below_dN (Below.refl _ _) nq)).set (p := ⟨R, 2, none⟩) (.inl rfl) _).set (p := ⟨R, 3, none⟩) (.inl rfl) _).set (p := ⟨R, 1, none⟩) (.inl rfl) _).set (p := ⟨R, 3, none⟩) (.inl rfl) _
  · have HE := Lib.hid (show stepP (bt s k) (l, c) = (l, c + 1) by
      unfold stepP; rw [if_neg (by rw [← hg']; exact fun e => h10 (by rw [e]; rfl))])
    have hd : decide ((S[k].toNat : Int) = 10) = false := by simp; omega
    clear hb hg'
    go_enter Tryd.func20, Tryd.ntmps20
    go_wp2_with fail
    go_quiet (fail)
    go_wp2
    refine bodyPost_end (results_none rfl _ _ _) rfl ⟨rfl, ?_, ?_⟩
    · rw [HE.out]
      exact (HB.out.s1 ((k : Int) + 1)).s3 (c + 1)
    · exact ((show Kb (fun g => g = R) w (w.drewN nq) from Kb.of_below (below_dN (Below.refl _ _) nq)).set (p := ⟨R, 1, none⟩) (.inl rfl) _).set (p := ⟨R, 3, none⟩) (.inl rfl) _
end Go.Proofs.YtebgaicapjpohaaDoor

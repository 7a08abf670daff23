/- The argument of a linear program, opened. -/
import Derived.Test.YtaampjhdgeoicaaOpenC
import Derived.Test.YtaampjhdgeoicaaSxC
namespace Go.Proofs.Ytaampjhdgeoicaa
set_option linter.unusedSimpArgs false
set_option linter.unusedVariables false
open Go.RowKit Go.ChangeShapes Go.WideShapes Go.Deep Go.Joins
set_option linter.unusedVariables false

def PrgV (c : List (Int × Int)) (R : List (List (Int × Int))) (b : List (Int × Int)) (Ac AR Ab : Option Addr) (cc cR cb : Nat) : Value := .agg #[.slice Ac c.length cc, .slice AR R.length cR, .slice Ab b.length cb]
section
variable {H : Type} {enc : TypeId × Value → H} {w : World}
theorem open_MxAt {cs : List Value} {d : DataW H} (h : Reads enc Try.prog w 23 cs d) (hf : Fits Try.prog 23 d) : ∃ A R c, cs = [.slice A (R : List (List (Int × Int))).length c] ∧ (A = none → c = 0) ∧ MxAt w A R := by
  obtain ⟨A, len, c, rfl, h0, hl, hr⟩ := open_row Try.underlying23 (show Try.prog.cellsOf 22 = 1 by kernel_rfl) (by decide) (show 0 < Try.prog.bytesOf 22 by exact of_decide_eq_true (by kernel_rfl)) h hf
  rcases Nat.eq_zero_or_pos len with rfl | hp
  · exact ⟨A, [], c, rfl, h0, ⟨by simp, fun h => absurd h (by simp)⟩⟩
  · obtain ⟨b, off, rfl, hb, hi⟩ := hr hp
    obtain ⟨l, hll, hlp⟩ := list_of ([] : List (Int × Int)) len (fun i x => ∃ S c, w.cell? ⟨b, off + i, none⟩ = some (.slice S x.length c) ∧ (S = none → c = 0) ∧ FactsAt w w.heap.size S x) fun i hil => by
      obtain ⟨es, D, hel, hc, hd, hfd⟩ := hi i hil
      obtain ⟨S, x, c, rfl, hn, hF⟩ := open_FracsAt hd hfd
      exact ⟨x, S, c, by simpa using hc 0 (by omega), hn, hF⟩
    subst hll
    exact ⟨_, l, c, rfl, h0, ⟨by omega, fun _ => ⟨b, off, rfl, hb, fun k hk => hlp k hk⟩⟩⟩
end
section
variable {H : Type} {enc : TypeId × Value → H} {W : World} {base : Nat} {v : Value} {d : DataW H} {p : List MemPlace}
set_option maxRecDepth 100000 in
theorem arg_prog (hv : Value.okWide Try.prog W .any base 25 v) (h : DataW.Trod enc Try.prog W 0 (fun _ => true) true 25 v d p) (hf : Fits Try.prog 25 d) : ∃ c R b Ac AR Ab cc cR cb, v = PrgV c R b Ac AR Ab cc cR cb ∧ FactsAt W W.heap.size Ac c ∧ MxAt W AR R ∧ FactsAt W W.heap.size Ab b := by
  obtain ⟨cs, rfl, hsz⟩ := okWide_struct Try.underlying25 hv
  rw [show Try.prog.cellsOf 25 = 3 by kernel_rfl] at hsz
  obtain ⟨fuel, h⟩ := h
  have hl : cs.toList.length = 3 := by simpa using hsz
  have hR : Reads enc Try.prog W 25 cs.toList d := ⟨fuel, p, h⟩
  obtain ⟨l, hcl⟩ : ∃ l, l = cs.toList := ⟨_, rfl⟩
  rw [← hcl] at hl hR
  match l, hl with
  | [c0, c1, c2], _ =>
    obtain ⟨D0, r0, f0⟩ := open_fields Try.underlying25 (by kernel_rfl) hR hf 0 _ c0 rfl rfl
    obtain ⟨D1, r1, f1⟩ := open_fields Try.underlying25 (by kernel_rfl) hR hf 1 _ c1 rfl rfl
    obtain ⟨D2, r2, f2⟩ := open_fields Try.underlying25 (by kernel_rfl) hR hf 2 _ c2 rfl rfl
    obtain ⟨A0, l0, k0, e0, _, F0⟩ := open_FracsAt r0 f0
    obtain ⟨A1, l1, k1, e1, _, F1⟩ := open_MxAt r1 f1
    obtain ⟨A2, l2, k2, e2, _, F2⟩ := open_FracsAt r2 f2
    simp at e0 e1 e2
    subst e0 e1 e2
    have hcs : cs = #[.slice A0 l0.length k0, .slice A1 l1.length k1, .slice A2 l2.length k2] := Array.toList_inj.1 hcl.symm
    exact ⟨l0, l1, l2, A0, A1, A2, k0, k1, k2, by rw [hcs]; rfl, F0, F1, F2⟩
end

end Go.Proofs.Ytaampjhdgeoicaa

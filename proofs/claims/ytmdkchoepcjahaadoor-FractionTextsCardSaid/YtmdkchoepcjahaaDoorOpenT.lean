/- Arguments opened: fractions by value, strings. -/
import Derived.Test.YtmdkchoepcjahaaDoorOpenG
import Derived.ChangeMaps5
namespace Go.Proofs.YtmdkchoepcjahaaDoor
set_option linter.unusedSimpArgs false
set_option linter.unusedVariables false
open Go Go.RowKit Go.ChangeShapes Go.WideShapes Go.Deep Go.Joins
set_option linter.unusedVariables false

section
variable {H : Type} {enc : TypeId × Value → H} {W : World} {v : Value} {d : DataW H} {p : List MemPlace} {base : Nat}
set_option maxRecDepth 100000 in
theorem arg_frac (hv : Value.okWide Tryd.prog W .any base 23 v) (h : DataW.Trod enc Tryd.prog W 0 (fun _ => true) true 23 v d p) : ∃ x y : Int, v = .agg #[.int .i64 x, .int .i64 y] := by
  obtain ⟨nv, dv, yn, yd, m0, rfl, rfl, rfl, hn, hd⟩ := open_agg2 Tryd.underlying23 (by kernel_rfl) (by kernel_rfl) hv h
  obtain ⟨n, en, rfl, wn⟩ := DataW.trod_int Tryd.underlying3 hn
  obtain ⟨d, ed, rfl, wd⟩ := DataW.trod_int Tryd.underlying3 hd
  simp at en ed; subst en ed
  exact ⟨n, d, rfl⟩
theorem arg_string (hv : Value.okWide Tryd.prog W .any base 9 v) (h : DataW.Trod enc Tryd.prog W 0 (fun _ => true) true 9 v d p) (hf : Fits Tryd.prog 9 d) : ∃ s : ByteArray, v = .string s ∧ s.size ≤ 140737488351232 := by
  obtain ⟨s, rfl, rfl, rfl, hs⟩ := ChangeMaps.open_string Tryd.underlying9 hv h
  refine ⟨s, rfl, ?_⟩
  have := hf s.data.toList.length (by simp [DataW.weights, Tryd.underlying9])
  have hr : reachBytes = 140737488351232 := rfl
  have e : s.size = s.data.size := rfl
  simp at this
  omega
end

end Go.Proofs.YtmdkchoepcjahaaDoor

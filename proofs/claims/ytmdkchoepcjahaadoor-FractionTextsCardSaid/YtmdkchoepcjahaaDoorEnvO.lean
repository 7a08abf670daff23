/- What the listed variables and the world's shape give. -/
import Derived.Test.YtmdkchoepcjahaaDoorShlE
import Derived.Shelf.Vars
namespace Go.Proofs.YtmdkchoepcjahaaDoor
set_option linter.unusedSimpArgs false
set_option linter.unusedVariables false
open Go Go.RowKit Go.Lib
set_option linter.unusedVariables false

theorem rowES (u : TypeId) (h : Tryd.prog.typeName? 3 u = some "*errors.errorString") : u = 94 := by
  have st : "*" ++ "errors.errorString" = "*errors.errorString" := by decide
  exact typeName_ptr_named (nm := "errors.errorString") (by rw [st]; kernel_rfl) (by kernel_rfl) (by decide) u (by rw [st]; exact h)
theorem envM_of {w : World} (h : w.ShapedOpen Tryd.prog) : EnvM w := ⟨cell_of_shapedOpen_int (t := 3) (zero := #[.int .i64 0]) h (of_decide_eq_true (by kernel_rfl)) (by kernel_rfl) rfl (by kernel_rfl) (by kernel_rfl) Tryd.underlying3⟩
theorem envT_of {w : World} {r : List (String × DataW Unit)} (h : laidMet Tryd.prog (("internal/strconv.uint64pow10", tabData .u64 pow10Tab) :: r) w) : EnvT w :=
  ⟨tabIs_of_head (g := 3) (t := 84) (e := 57) (n := 20) (by kernel_rfl) (by kernel_rfl) Tryd.underlying84 Tryd.underlying57 (by kernel_rfl) (by kernel_rfl) h⟩
theorem sentinel_of {n : String} {text : List UInt8} {r : List (String × DataW Unit)} {w : World} {g : Nat} (h : laidMet Tryd.prog ((n, .iface "*errors.errorString" (.ptr (.agg [.lit (.string text)]))) :: r) w) (hg : Tryd.prog.globalNamed n = some g) (ht : (Tryd.prog.globals[g]?).map (·.type) = some 27) : ∃ te pe, w.cell? ⟨g, 0, none⟩ = some (.iface te pe) := by
  obtain ⟨a0, s0, hv0, -, -, -⟩ := laid_sentinel h hg ht Tryd.underlying27 rowES Tryd.underlying94 Tryd.underlying96 rfl rfl Tryd.underlying9 (by kernel_rfl) (by kernel_rfl)
  exact ⟨_, _, by have h0 := World.var?_cell hg hv0 0; simpa using h0⟩
theorem envA_of {w : World} {t1 t2 : List UInt8} {r1 r2 : List (String × DataW Unit)} (h1 : laidMet Tryd.prog (("strconv.ErrSyntax", .iface "*errors.errorString" (.ptr (.agg [.lit (.string t1)]))) :: r1) w) (h2 : laidMet Tryd.prog (("strconv.ErrRange", .iface "*errors.errorString" (.ptr (.agg [.lit (.string t2)]))) :: r2) w) : EnvA w :=
  ⟨sentinel_of h1 (by kernel_rfl) (by kernel_rfl), sentinel_of h2 (by kernel_rfl) (by kernel_rfl)⟩
end Go.Proofs.YtmdkchoepcjahaaDoor

/- FractionOrder returns true for every input. No condition. -/
import Derived.Test.YtmbbojpghliaaaaFracO
import Derived.Lib.SmallJoins
import Derived.Test.YtmbbojpghliaaaaRow
namespace Go.Proofs.Ytmbbojpghliaaaa
open Go.ChangeShapes Go.WideShapes Go.ChangeAt Go.RowKit
open Go.Joins

set_option maxRecDepth 100000 in
theorem fractionOrder_lifted (os : Os) (started : os.Started) (H : Type) (enc : TypeId × Value → H) :
    ReturnsInHanded {} Try.checked os 6 .any (Rows.fractionOrderSpec.pre6 enc Try.prog Try.f6 Rows.fractionOrderRow.domain false) (Rows.fractionOrderSpec.post enc Try.prog Try.f6 false true false false) := by
  refine returnsInHanded_of_change (C := Try.checked) own started (by kernel_rfl) Try.func6
    (ChangeSpec.witness6 (enc := enc) (C := Try.checked) false ⟨#[], #[.agg #[.int .i64 0, .int .i64 0], .agg #[.int .i64 0, .int .i64 0], .agg #[.int .i64 0, .int .i64 0]], []⟩ 8 (by kernel_rfl) (by kernel_rfl) (by kernel_rfl) (by kernel_rfl)) ?_
  intro W base args ds gs before hval0 hW hcnd _
  have hval : ∀ (j : Nat) t v, Try.f6.params[j]? = some t → args[j]? = some v → Value.okWide Try.prog W .any base t v := hval0
  have hW' := hW
  obtain ⟨p, q, hA0, hV, rfl, hfz, hnd⟩ := hW
  have hA : DataW.TrodAll enc Try.prog W 0 (fun _ => true) true Try.f6.params.toList args.toList ds p := hA0
  have hA' := hA
  rw [Try.params6] at hA' hval
  obtain ⟨v0, v1, v2, d0, d1, d2, p0, p1, p2, rfl, rfl, rfl, h0, h1, h2⟩ := trodAll_three hA'
  obtain ⟨rfl, rfl⟩ := trodVars_none hV
  clear hA0 hval0
  simp only [List.append_nil] at hW'
  obtain ⟨nv, dv, yn, yd, m0, rfl, rfl, rfl, hn, hd⟩ := open_agg2 Try.underlying24 (by kernel_rfl) (by kernel_rfl) (hval 0 24 v0 rfl rfl) h0
  obtain ⟨n, en, rfl, wn⟩ := DataW.trod_int Try.underlying3 hn
  obtain ⟨d, ed, rfl, wd⟩ := DataW.trod_int Try.underlying3 hd
  simp at en ed; subst en ed
  obtain ⟨mv, ev, ym, ye, m1, rfl, rfl, rfl, hm, he⟩ := open_agg2 Try.underlying24 (by kernel_rfl) (by kernel_rfl) (hval 1 24 v1 rfl rfl) h1
  obtain ⟨m, em, rfl, wm⟩ := DataW.trod_int Try.underlying3 hm
  obtain ⟨e, ee, rfl, we⟩ := DataW.trod_int Try.underlying3 he
  simp at em ee; subst em ee
  obtain ⟨kv, fv, yk, yf, m2, rfl, rfl, rfl, hk, hf⟩ := open_agg2 Try.underlying24 (by kernel_rfl) (by kernel_rfl) (hval 2 24 v2 rfl rfl) h2
  obtain ⟨k, ek, rfl, wk⟩ := DataW.trod_int Try.underlying3 hk
  obtain ⟨f, ef, rfl, wf⟩ := DataW.trod_int Try.underlying3 hf
  simp at ek ef; subst ek ef
  refine (fractionOrder_any n d m e k f W).mono fun e W' ⟨he, hg⟩ => ?_
  subst he
  exact ⟨_, rfl, law_post laidOut (by kernel_rfl) (by kernel_rfl) Try.underlying4 rfl hW' hA rfl rfl rfl hg⟩

theorem fractionOrder_holds : Rows.FractionOrderSaid :=
  OpenClaim.holds_of_wide 6 Try.f6 rfl rfl rfl rfl rfl rfl rfl ⟨rfl, rfl, rfl, rfl, rfl⟩ rfl rfl rfl rfl rfl (by kernel_rfl) Try.func6 (by kernel_rfl)
    (of_decide_eq_true (by kernel_rfl)) (by unfold Func.isWrapper; first | (rw [if_pos (by decide +kernel)]; kernel_rfl) | (rw [if_neg (by decide +kernel)]; exact ⟨rfl, rfl⟩))
    (fun os started H enc _ => fractionOrder_lifted os started H enc)
#print axioms fractionOrder_holds

end Go.Proofs.Ytmbbojpghliaaaa

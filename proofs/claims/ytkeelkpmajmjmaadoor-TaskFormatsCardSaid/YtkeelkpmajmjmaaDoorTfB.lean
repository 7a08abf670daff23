/- strings.Builder as the walk of task.Format needs it; what Format answers. -/
import Derived.Test.YtkeelkpmajmjmaaDoorTfN
import Derived.Test.YtkeelkpmajmjmaaDoorTaskH
import Derived.Lib.OthersKept
namespace Go.Proofs.YtkeelkpmajmjmaaDoor
set_option linter.unusedSimpArgs false
set_option linter.unusedVariables false
open Go Go.RowKit
set_option linter.unusedVariables false

/-- The builder at b, made behind B, holds these bytes. -/
def Bld (B b : Nat) (l : List UInt8) (w : World) : Prop := Lib.IsBuilderF 51 5 B b (Lib.byteCells l) w
theorem Bld.lt {B b : Nat} {l : List UInt8} {w : World} (h : Bld B b l w) : b < w.heap.size := h.elim (fun x => x.lt) (fun x => x.lt)
theorem Bld.le {B b : Nat} {l : List UInt8} {w : World} (h : Bld B b l w) : B ≤ b := h.elim (fun x => x.1) (fun x => x.1)
theorem Bld.new (w : World) : Bld w.heap.size w.heap.size [] (w.alloc (.cells #[.pointer none, .slice none 0 0] 51)) := Lib.IsBuilderF.of (Lib.fresh_isBuilder _ _ w)
theorem bldAt_below {T e : TypeId} {B b : Nat} {p : Value} {l : List Value} {W W' : World} (h : Lib.BuilderAtF T e B b p l W) (hb : Below W.heap.size W W') : Lib.BuilderAtF T e B b p l W' := by
  have hlt := h.lt
  obtain ⟨hB, v, hv, hown, hne⟩ := h
  exact ⟨hB, v, (hb.block b hlt).trans hv, hown.kept (row := none) ⟨hb.os, hb.tape, hb.output, hb.size, fun k hk _ => hb.block k hk⟩ (Classical.em _), hne⟩
theorem Bld.up {B b : Nat} {l : List UInt8} {W W' : World} (h : Bld B b l W) (hb : Below W.heap.size W W') : Bld B b l W' := h.elim (fun x => .inl (bldAt_below x hb)) (fun x => .inr (bldAt_below x hb))
theorem wr_any (B b : Nat) (l : List UInt8) (s : ByteArray) (w : World) (h : Bld B b l w) (hlen : l.length + s.size ≤ 140737488355328) :
    Calls Tryd.prog 14 #[.pointer (some ⟨b, 0, none⟩), .string s] w fun e w' => e = .returned (.tuple #[.int .i64 s.size, .nilIface]) ∧ Bld B b (l ++ s.data.toList) w' ∧ Below B w w' ∧ Lib.OthersKept 5 (some b) w w' := by
  have h1 := h.lt
  have h2 := h.le
  refine (Tryd.Builder_WriteString_k B b (Lib.byteCells l) s w h (by unfold Lib.byteCells; rw [List.length_map]; exact hlen) (by omega)).mono ?_
  rintro e w' ⟨he, h3, h4, h5⟩
  refine ⟨he, .inr ?_, h4, h5⟩
  have e1 : Lib.byteCells (l ++ s.data.toList) = Lib.byteCells l ++ Lib.strCells s := by unfold Lib.byteCells Lib.strCells; rw [List.map_append]
  rw [e1]
  exact h3
theorem wlen_any (B b : Nat) (l : List UInt8) (w : World) (h : Bld B b l w) :
    Calls Tryd.prog 18 #[.pointer (some ⟨b, 0, none⟩)] w fun e w' => e = .returned (.int .i64 l.length) ∧ w' = w := by
  refine (Tryd.Builder_Len_f B b (Lib.byteCells l) w h).mono ?_
  rintro e w' ⟨he, h3⟩
  exact ⟨by rw [he]; unfold Lib.byteCells; rw [List.length_map], h3⟩
theorem wstr_any (B b : Nat) (l : List UInt8) (w : World) (h : Bld B b l w) :
    Calls Tryd.prog 19 #[.pointer (some ⟨b, 0, none⟩)] w fun e w' => e = .returned (.string (bs l)) ∧ Below B w w' := by
  have h1 := h.lt
  have h2 := h.le
  refine (Tryd.Builder_String_any_k B b l w h (by omega)).mono ?_
  rintro e w' ⟨he, h3, h4, h5⟩
  exact ⟨he, h4⟩
/-- What lies in another block, of another type, lies there still. -/
theorem oth_block {b k : Nat} {w w' : World} {c : Array Value} {T : TypeId} {fz : Nat × Nat} (h : Lib.OthersKept 5 (some b) w w') (hk : w.heap[k]? = some (.cells c T fz)) (hne : k ≠ b) (hT : T ≠ 5) : w'.heap[k]? = some (.cells c T fz) :=
  h k _ hk (fun e => hne (Option.some.inj e)) (fun c' fz' e => hT (by cases e; rfl))
theorem name_le {t : Tsk} (h : chkC t = 0) : ∀ k, k < t.ops.length → (opr t.ops k).name.size ≤ 256 := by
  intro k hk
  have h1 : misT t = false := by
    unfold chkC at h
    cases e : misT t
    · rfl
    · rw [e] at h
      split at h
      · omega
      · split at h
        · omega
        · split at h
          · omega
          · simp at h
  have h2 := anyB_false.1 h1 k hk
  unfold misO at h2
  rw [Bool.or_eq_false_iff] at h2
  have := h2.1
  simp at this
  omega
/-- What Format answers: the error's number, the text. -/
def fmC (t : Tsk) : Int := if chkC t ≠ 0 then chkC t else if 65536 < (fmL t t.ops.length).length then 5 else 0
def fmS (t : Tsk) : ByteArray := if fmC t = 0 then bs (fmL t t.ops.length) else ⟨#[]⟩

end Go.Proofs.YtkeelkpmajmjmaaDoor

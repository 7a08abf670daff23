/- registry: Add, walked. -/
import Derived.Test.YtpobnjbpglaohaaGreatWpM
namespace Go.Proofs.YtpobnjbpglaohaaGreat
set_option linter.unusedSimpArgs false
set_option linter.unusedVariables false
open Go Go.RowKit Go.Maps
set_option linter.unusedVariables false

theorem qundEn : Tryz.prog.underlying 85 = some (.slice 98) := by kernel_rfl
theorem qinfEn : (Tryz.prog.info? 98).map (fun i => (i.zero, i.size, i.bytes)) = some (some (.agg #[.slice none 0 0, .int .i64 0, .int .i64 0, .int .i64 0]), 4, 48) := by kernel_rfl
theorem entC_app (n : Nat) (wb : Nat → Nat) (x : Int × Int × Int) : ∀ (L : List (Int × Int × Int)) (i : Nat), entC n wb (L ++ [x]) i = entC n wb L i ++ [.slice (some ⟨wb (i + L.length), 0, none⟩) n n, .int .i64 x.1, .int .i64 x.2.1, .int .i64 x.2.2]
  | [], i => by obtain ⟨a, b, c⟩ := x; rfl
  | (a, b, c) :: r, i => by
    rw [List.cons_append, entC, entC, entC_app n wb x r (i + 1), List.append_assoc, List.length_cons, show i + 1 + r.length = i + (r.length + 1) by omega]
theorem entC_congr (n : Nat) (wb wb' : Nat → Nat) : ∀ (L : List (Int × Int × Int)) (i : Nat), (∀ k, i ≤ k → k < i + L.length → wb k = wb' k) → entC n wb L i = entC n wb' L i
  | [], i, _ => rfl
  | (a, b, c) :: r, i, h => by
    rw [entC, entC, entC_congr n wb wb' r (i + 1) (fun k h1 h2 => h k (by omega) (by simp; omega)), h i (Nat.le_refl _) (by simp)]
theorem stI_app {S : List (List Int)} {s : List Int} {i : Nat} (hi : i < S.length) : stI (S ++ [s]) i = stI S i := by
  unfold stI
  simp [List.getD, List.getElem?_append_left hi]
theorem stI_new (S : List (List Int)) (s : List Int) : stI (S ++ [s]) S.length = s := by
  unfold stI
  simp [List.getD]
theorem ids_app (F : List Fld) (n : Nat) (S : List (List Int)) (s : List Int) (h : Int) : idsH F n (S ++ [s]) h = idsH F n S h ++ (if hashW (wdsOf F n s) = h then [(S.length : Int)] else []) := by
  unfold idsH
  rw [List.length_append, List.length_singleton, List.range_succ, List.filter_append, List.map_append]
  congr 1
  · congr 1
    apply List.filter_congr
    intro i hi
    rw [stI_app (List.mem_range.1 hi)]
  · rw [List.filter_cons, stI_new]
    split
    · rename_i e; rw [if_pos (by simpa using e)]; rfl
    · rename_i e; rw [if_neg (by simpa using e)]; rfl
section
variable {w w' : World} {base R p mb : Nat} {E : Value} {es : Array MapEntry} {F : List Fld} {n : Nat} {S : List (List Int)} {L : List (Int × Int × Int)} {wb : Nat → Nat}
theorem Kb.block1 {bad : Nat → Prop} (h : Kb bad w w') {b : Nat} (hb : bad b ∨ w.heap.size ≤ b) (o : Obj) : Kb bad w (ChangeMaps.setBlock w' b o) :=
  ⟨h.os, h.tape, h.output, by simpa [ChangeMaps.setBlock] using h.size, fun k hk ho => by
    have hne : b ≠ k := fun e => by
      subst e
      rcases hb with hb | hb
      · exact ho hb
      · omega
    rw [← h.block k hk ho]
    simp [ChangeMaps.setBlock, Array.getElem?_setIfInBounds, hne]⟩
theorem set_blk {b : Nat} (hb : b < w.heap.size) (o : Obj) : (ChangeMaps.setBlock w b o).heap[b]? = some o := by
  simp [ChangeMaps.setBlock, hb]
/-- The entries' row lies apart from all else. -/
theorem RegC.farE (h : RegC w base R p mb E es F n S L wb) {b : Nat} (hb : E.ownBlock = some b) : b ≠ R ∧ b ≠ mb ∧ (∀ q v, IsAt es.toList q v → v.ownBlock ≠ some b) ∧ ∀ i, i < S.length → b ≠ wb i := by
  obtain ⟨cur, hc⟩ := own_blk h.ents hb
  obtain ⟨clock, hm⟩ := h.map
  refine ⟨fun e => ?_, fun e => ?_, fun q v hv hq => ?_, fun i hi e => ?_⟩
  · have := h.box; unfold BxI at this; rw [← e, hc] at this; simp at this
  · rw [← e, hc] at hm; simp at hm
  · obtain ⟨cur2, hc2⟩ := own_blk (h.rows q v hv) hq
    rw [hc] at hc2; simp at hc2
  · have := h.wds i hi; unfold BxI at this; rw [← e, hc] at this; simp at this
theorem RegC.farR (h : RegC w base R p mb E es F n S L wb) : R ≠ mb ∧ (∀ q v, IsAt es.toList q v → v.ownBlock ≠ some R) ∧ (∀ i, i < S.length → R ≠ wb i) := by
  have hc := h.box
  unfold BxI at hc
  obtain ⟨clock, hm⟩ := h.map
  refine ⟨fun e => ?_, fun q v hv hq => ?_, fun i hi e => ?_⟩
  · rw [← e, hc] at hm; simp at hm
  · obtain ⟨cur2, hc2⟩ := own_blk (h.rows q v hv) hq
    rw [hc] at hc2; simp at hc2
  · have := h.wds i hi; unfold BxI at this; rw [← e, hc] at this; simp at this
theorem RegC.farM (h : RegC w base R p mb E es F n S L wb) : (∀ q v, IsAt es.toList q v → v.ownBlock ≠ some mb) ∧ (∀ i, i < S.length → mb ≠ wb i) := by
  obtain ⟨clock, hm⟩ := h.map
  refine ⟨fun q v hv hq => ?_, fun i hi e => ?_⟩
  · obtain ⟨cur2, hc2⟩ := own_blk (h.rows q v hv) hq
    rw [hm] at hc2; simp at hc2
  · have := h.wds i hi; unfold BxI at this; rw [← e, hm] at this; simp at this
theorem RegC.farW (h : RegC w base R p mb E es F n S L wb) {q : Int} {v : Value} (hv : IsAt es.toList q v) {b : Nat} (hb : v.ownBlock = some b) : ∀ i, i < S.length → b ≠ wb i := fun i hi e => by
  obtain ⟨cur2, hc2⟩ := own_blk (h.rows q v hv) hb
  have := h.wds i hi
  unfold BxI at this
  rw [← e, hc2] at this
  simp at this
end
end Go.Proofs.YtpobnjbpglaohaaGreat

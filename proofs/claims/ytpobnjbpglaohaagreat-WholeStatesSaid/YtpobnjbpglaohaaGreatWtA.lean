/- explore: labels of nodes (distances, steps): plain, in memory. -/
import Derived.Test.YtpobnjbpglaohaaGreatWsC
namespace Go.Proofs.YtpobnjbpglaohaaGreat
set_option linter.unusedSimpArgs false
set_option linter.unusedVariables false
open Go Go.RowKit
set_option linter.unusedVariables false

def inf : Int := 1125899906842624
def smI : List Int → Int
  | [] => 0
  | x :: r => x + smI r
theorem smI_set : ∀ (l : List Int) (j : Nat) (x : Int), j < l.length → smI (l.set j x) = smI l - nth l j + x
  | a :: r, 0, x, _ => by simp [smI, nth]; omega
  | a :: r, j + 1, x, h => by
    have := smI_set r j x (by simpa using h)
    have e : nth (a :: r) (j + 1) = nth r j := by simp [nth]
    rw [List.set_cons_succ, smI, smI, this, e]
    omega
theorem nth_setW {l : List Int} {j : Nat} (x : Int) (i : Nat) (hj : j < l.length) : nth (l.set j x) i = if i = j then x else nth l i := by
  unfold nth
  rw [List.getD, List.getElem?_set]
  by_cases e : j = i
  · subst e; simp [hj]
  · rw [if_neg e, if_neg (Ne.symm e)]; rfl
theorem smI_le : ∀ (l : List Int) (B : Int), (∀ i, i < l.length → 0 ≤ nth l i ∧ nth l i ≤ B) → 0 ≤ smI l ∧ smI l ≤ l.length * B
  | [], B, _ => by simp [smI]
  | a :: r, B, h => by
    have h0 := h 0 (by simp)
    have hr := smI_le r B (fun i hi => by have := h (i + 1) (by simpa using hi); simpa [nth] using this)
    have e : nth (a :: r) 0 = a := by simp [nth]
    rw [e] at h0
    rw [smI, List.length_cons]
    have : ((r.length + 1 : Nat) : Int) * B = (r.length : Int) * B + B := by rw [Int.natCast_add, Int.add_mul]; simp
    rw [this]
    omega
/-- How far the distances have fallen. -/
def slk (n : Nat) (ds : List Int) : Int := n * inf - smI ds
structure Lab (n : Nat) (ds ss : List Int) : Prop where
  ld : ds.length = n
  ls : ss.length = n
  dr : ∀ i, i < n → 0 ≤ nth ds i ∧ nth ds i ≤ inf
  sr : ∀ i, i < n → 0 ≤ nth ss i ∧ nth ss i ≤ inf + slk n ds
def mI (n : Nat) : Int := inf * (n + 1) + 1
def potI (n : Nat) (ds ss : List Int) : Int := smI ds * mI n + smI ss
def pot (n : Nat) (ds ss : List Int) : Nat := (potI n ds ss).toNat
theorem Lab.slk {n : Nat} {ds ss : List Int} (h : Lab n ds ss) : 0 ≤ slk n ds ∧ slk n ds ≤ n * inf := by
  have := smI_le ds inf (fun i hi => h.dr i (by rw [← h.ld]; exact hi))
  rw [h.ld] at this
  unfold Go.Proofs.YtpobnjbpglaohaaGreat.slk
  omega
theorem Lab.pot0 {n : Nat} {ds ss : List Int} (h : Lab n ds ss) : 0 ≤ potI n ds ss := by
  have h1 := (smI_le ds inf (fun i hi => h.dr i (by rw [← h.ld]; exact hi))).1
  have h2 := (smI_le ss (inf + Go.Proofs.YtpobnjbpglaohaaGreat.slk n ds) (fun i hi => h.sr i (by rw [← h.ls]; exact hi))).1
  have h3 : 0 ≤ mI n := by unfold mI inf; omega
  have := Int.mul_nonneg h1 h3
  unfold potI
  omega
/-- A better label. -/
theorem Lab.upd {n : Nat} {ds ss : List Int} (h : Lab n ds ss) {j : Nat} {x y : Int} (hj : j < n) (hx : 0 ≤ x) (hy : 0 ≤ y ∧ y ≤ inf + Go.Proofs.YtpobnjbpglaohaaGreat.slk n ds + 1) (hb : x < nth ds j ∨ (x = nth ds j ∧ y < nth ss j)) :
    Lab n (ds.set j x) (ss.set j y) ∧ pot n (ds.set j x) (ss.set j y) + 1 ≤ pot n ds ss ∧ Go.Proofs.YtpobnjbpglaohaaGreat.slk n ds ≤ Go.Proofs.YtpobnjbpglaohaaGreat.slk n (ds.set j x) := by
  have hdj := h.dr j hj
  have hsj := h.sr j hj
  have hjl : j < ds.length := by rw [h.ld]; exact hj
  have hjs : j < ss.length := by rw [h.ls]; exact hj
  have e1 := smI_set ds j x hjl
  have e2 := smI_set ss j y hjs
  have hsl : Go.Proofs.YtpobnjbpglaohaaGreat.slk n (ds.set j x) = Go.Proofs.YtpobnjbpglaohaaGreat.slk n ds + (nth ds j - x) := by unfold Go.Proofs.YtpobnjbpglaohaaGreat.slk; rw [e1]; omega
  have hlab : Lab n (ds.set j x) (ss.set j y) := by
    refine ⟨by rw [List.length_set]; exact h.ld, by rw [List.length_set]; exact h.ls, fun i hi => ?_, fun i hi => ?_⟩
    · rw [nth_setW x i hjl]
      have := h.dr i hi
      split <;> omega
    · rw [nth_setW y i hjs, hsl]
      have := h.sr i hi
      split <;> omega
  refine ⟨hlab, ?_, by omega⟩
  have p0 := hlab.pot0
  have hk := hlab.slk
  have hm : mI n = inf * (n + 1) + 1 := rfl
  have hm2 : inf * ((n : Int) + 1) = n * inf + inf := by rw [Int.mul_add, Int.mul_comm]; omega
  have key : potI n (ds.set j x) (ss.set j y) + 1 ≤ potI n ds ss := by
    unfold potI
    rw [e1, e2]
    have hy2 : y ≤ mI n - 1 := by omega
    rcases hb with hb | ⟨hb, hb2⟩
    · have h3 : (smI ds - nth ds j + x) * mI n ≤ (smI ds - 1) * mI n := Int.mul_le_mul_of_nonneg_right (by omega) (by unfold mI inf; omega)
      have h4 : (smI ds - 1) * mI n = smI ds * mI n - mI n := by rw [Int.sub_mul, Int.one_mul]
      omega
    · have h3 : smI ds - nth ds j + x = smI ds := by omega
      rw [h3]
      omega
  unfold pot
  omega
/-- A source's label. -/
theorem Lab.src {n : Nat} {ds ss : List Int} (h : Lab n ds ss) {j : Nat} (hj : j < n) : Lab n (ds.set j 0) (ss.set j 0) := by
  have hdj := h.dr j hj
  have hsj := h.sr j hj
  have hjl : j < ds.length := by rw [h.ld]; exact hj
  have hjs : j < ss.length := by rw [h.ls]; exact hj
  have e1 := smI_set ds j 0 hjl
  have hsl : Go.Proofs.YtpobnjbpglaohaaGreat.slk n (ds.set j 0) = Go.Proofs.YtpobnjbpglaohaaGreat.slk n ds + nth ds j := by unfold Go.Proofs.YtpobnjbpglaohaaGreat.slk; rw [e1]; omega
  refine ⟨by rw [List.length_set]; exact h.ld, by rw [List.length_set]; exact h.ls, fun i hi => ?_, fun i hi => ?_⟩
  · rw [nth_setW 0 i hjl]
    have := h.dr i hi
    split <;> first | (constructor <;> (unfold inf; omega)) | omega
  · rw [nth_setW 0 i hjs, hsl]
    have := h.sr i hi
    have h1 := h.slk
    split
    · constructor
      · omega
      · have : 0 ≤ inf := by unfold inf; omega
        omega
    · omega
theorem smI_rep (n : Nat) (x : Int) : smI (List.replicate n x) = n * x := by
  induction n with
  | zero => simp [smI]
  | succ n ih => rw [List.replicate_succ, smI, ih, Int.natCast_add, Int.add_mul]; simp; omega
theorem nth_rep {n i : Nat} (x : Int) (h : i < n) : nth (List.replicate n x) i = x := by unfold nth; simp [List.getD, h]
theorem Lab.init (n : Nat) : Lab n (List.replicate n inf) (List.replicate n inf) := by
  have h1 : Go.Proofs.YtpobnjbpglaohaaGreat.slk n (List.replicate n inf) = 0 := by unfold Go.Proofs.YtpobnjbpglaohaaGreat.slk; rw [smI_rep]; omega
  refine ⟨by simp, by simp, fun i hi => ?_, fun i hi => ?_⟩
  · rw [nth_rep _ hi]; unfold inf; omega
  · rw [nth_rep _ hi, h1]; unfold inf; omega
/-- Labels in memory. -/
structure LabAt (w : World) (base DB SB n : Nat) (ds ss : List Int) : Prop where
  od : w.ownsRow base 3 1 (.slice (some ⟨DB, 0, none⟩) n n) n (ic ds)
  os : w.ownsRow base 3 1 (.slice (some ⟨SB, 0, none⟩) n n) n (ic ss)
  ne : DB ≠ SB
  lab : Lab n ds ss
section
variable {w w' : World} {base DB SB n : Nat} {ds ss : List Int}
theorem LabAt.up (h : LabAt w base DB SB n ds ss) (k : Below w.heap.size w w') : LabAt w' base DB SB n ds ss :=
  { h with od := own_kb1 h.od (Kb.of_below (bad := fun _ => False) k) (fun _ _ h => h), os := own_kb1 h.os (Kb.of_below (bad := fun _ => False) k) (fun _ _ h => h) }
theorem LabAt.low {B : Nat} (h : LabAt w base DB SB n ds ss) (k : Below B w w') (h1 : DB < B) (h2 : SB < B) (hB : B ≤ w.heap.size) : LabAt w' base DB SB n ds ss :=
  have K : Kb (fun b => B ≤ b) w w' := ⟨k.os, k.tape, k.output, k.size, fun b hb hn => k.block b (by omega)⟩
  { h with od := own_kb1 h.od K (fun b hb e => by have : b = DB := by injection hb with hb; exact hb.symm
                                                  omega), os := own_kb1 h.os K (fun b hb e => by have : b = SB := by injection hb with hb; exact hb.symm
                                                                                                 omega) }
theorem LabAt.dcell (h : LabAt w base DB SB n ds ss) (k : Below w.heap.size w w') {i : Nat} (hi : i < n) : w'.cell? ⟨DB, i, none⟩ = some (.int .i64 (nth ds i)) := own_cell (h.up k).od (ic_get (by rw [h.lab.ld]; exact hi))
theorem LabAt.scell (h : LabAt w base DB SB n ds ss) (k : Below w.heap.size w w') {i : Nat} (hi : i < n) : w'.cell? ⟨SB, i, none⟩ = some (.int .i64 (nth ss i)) := own_cell (h.up k).os (ic_get (by rw [h.lab.ls]; exact hi))
theorem LabAt.put (h : LabAt w base DB SB n ds ss) {j : Nat} {x y : Int} (hl : Lab n (ds.set j x) (ss.set j y)) : LabAt ((w.setCell ⟨DB, j, none⟩ (.int .i64 x)).setCell ⟨SB, j, none⟩ (.int .i64 y)) base DB SB n (ds.set j x) (ss.set j y) := by
  have h1 : (ic ds).set j (.int .i64 x) = ic (ds.set j x) := by unfold ic; rw [List.map_set]
  have h2 : (ic ss).set j (.int .i64 y) = ic (ss.set j y) := by unfold ic; rw [List.map_set]
  refine { od := ?_, os := ?_, ne := h.ne, lab := hl }
  · rw [← h1]
    exact own_kb1 (own_setAt2 h.od _) (kb_set (p := ⟨SB, j, none⟩) _) (fun b hb e => h.ne (by have e : b = SB := e; injection hb with hb; exact hb.trans e))
  · rw [← h2]
    exact own_setAt2 (own_kb1 h.os (kb_set (p := ⟨DB, j, none⟩) _) (fun b hb e => h.ne (by have e : b = DB := e; injection hb with hb; exact e.symm.trans hb.symm))) _
theorem LabAt.blk (h : LabAt w base DB SB n ds ss) : base ≤ DB ∧ DB < w.heap.size ∧ base ≤ SB ∧ SB < w.heap.size := ⟨(h.od.lt DB rfl).1, (h.od.lt DB rfl).2, (h.os.lt SB rfl).1, (h.os.lt SB rfl).2⟩
end
/-- A row of numbers read back. -/
def rdI (w : World) (b n : Nat) : List Int := (List.range n).map fun i => RowKit.intOf ((w.cell? ⟨b, i, none⟩).getD undef)
theorem rdI_own {w : World} {base b n : Nat} {l : List Int} (h : w.ownsRow base 3 1 (.slice (some ⟨b, 0, none⟩) n n) n (ic l)) (hl : l.length = n) : rdI w b n = l := by
  unfold rdI
  apply List.ext_getElem
  · simp [hl]
  · intro i h1 h2
    have hi : i < l.length := h2
    have := own_cell h (ic_get hi)
    simp [this, RowKit.intOf, nth, List.getD, hi]
def potW (w : World) (DB SB n : Nat) : Nat := pot n (rdI w DB n) (rdI w SB n)
theorem potW_at {w : World} {base DB SB n : Nat} {ds ss : List Int} (h : LabAt w base DB SB n ds ss) : potW w DB SB n = pot n ds ss := by
  unfold potW
  rw [rdI_own h.od h.lab.ld, rdI_own h.os h.lab.ls]
/-- A table of arcs. -/
def ArcRow (w : World) (B n : Nat) (v : Value) : Prop := ∃ RA m RC, v = .slice RA m RC ∧ m ≤ 100000 ∧ (0 < m → ∃ rb off, RA = some ⟨rb, off, none⟩ ∧ rb < B ∧ ∀ k, k < m → ∃ (f wg : Int) (tn : Nat), w.cell? ⟨rb, off + k * 3, none⟩ = some (.int .i64 f) ∧ w.cell? ⟨rb, off + k * 3 + 1, none⟩ = some (.int .i64 tn) ∧ w.cell? ⟨rb, off + k * 3 + 2, none⟩ = some (.int .i64 wg) ∧ tn < n ∧ 0 ≤ wg ∧ wg ≤ 1048576)
def ArcsAt (w : World) (B b n : Nat) : Prop := b < B ∧ ∀ i, i < n → ∃ v, w.cell? ⟨b, i, none⟩ = some v ∧ ArcRow w B n v
theorem ArcsAt.keep {w w' : World} {B b n : Nat} (h : ArcsAt w B b n) (k : Below B w w') : ArcsAt w' B b n := ⟨h.1, fun i hi => by
  obtain ⟨v, h1, RA, m, RC, rfl, h2, h3⟩ := h.2 i hi
  refine ⟨_, (k.cell (p := ⟨b, i, none⟩) h.1).trans h1, RA, m, RC, rfl, h2, fun h0 => ?_⟩
  obtain ⟨rb, off, e, hb, hc⟩ := h3 h0
  refine ⟨rb, off, e, hb, fun j hj => ?_⟩
  obtain ⟨f, wg, tn, a1, a2, a3, a4⟩ := hc j hj
  exact ⟨f, wg, tn, (k.cell (p := ⟨rb, _, none⟩) hb).trans a1, (k.cell (p := ⟨rb, _, none⟩) hb).trans a2, (k.cell (p := ⟨rb, _, none⟩) hb).trans a3, a4⟩⟩
theorem wrap_x {d wg : Int} (h1 : 0 ≤ d) (h2 : d ≤ inf) (h3 : 0 ≤ wg) (h4 : wg ≤ 1048576) : IntKind.i64.wrap (d + wg) = d + wg := by
  unfold inf at h2
  have := i64_nat (d + wg).toNat (by omega)
  rw [show (((d + wg).toNat : Nat) : Int) = d + wg by omega] at this
  exact this
theorem wrap_y {k : Int} {n : Nat} {s : Int} (hn : n ≤ 1000) (h1 : 0 ≤ k) (h2 : k ≤ inf + s) (h3 : s ≤ n * inf) : IntKind.i64.wrap (k + 1) = k + 1 := by
  have h4 : (n : Int) * inf ≤ 1000 * inf := Int.mul_le_mul_of_nonneg_right (by omega) (by unfold inf; omega)
  unfold inf at *
  have := i64_nat (k + 1).toNat (by omega)
  rw [show (((k + 1).toNat : Nat) : Int) = k + 1 by omega] at this
  exact this
end Go.Proofs.YtpobnjbpglaohaaGreat

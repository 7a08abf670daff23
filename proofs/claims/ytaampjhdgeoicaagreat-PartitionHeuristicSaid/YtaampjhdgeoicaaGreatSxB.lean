/- simplex: rows of rational numbers of the call's own; the tableau in memory. -/
import Derived.Test.YtaampjhdgeoicaaGreatSxA
namespace Go.Proofs.YtaampjhdgeoicaaGreat
set_option linter.unusedSimpArgs false
set_option linter.unusedVariables false
open Go Go.RowKit
set_option linter.unusedVariables false

/-- The cells of a row of numbers. -/
def frc (f : Nat → Rat) (i : Nat) : Value := if i % 2 = 0 then .int .i64 (f (i / 2)).num else .int .i64 (f (i / 2)).den
def FrRow (w : World) (b N : Nat) (f : Nat → Rat) : Prop := rowGe w b 45 (N * 2) (frc f)
def updF (f : Nat → Rat) (j : Nat) (x : Rat) (i : Nat) : Rat := if i = j then x else f i
section
variable {w w' : World} {b N : Nat} {f g : Nat → Rat}
theorem frc_num (f : Nat → Rat) (j : Nat) : frc f (j * 2) = .int .i64 (f j).num := by
 unfold frc
 rw [if_pos (by omega), show j * 2 / 2 = j by omega]
theorem frc_den (f : Nat → Rat) (j : Nat) : frc f (j * 2 + 1) = .int .i64 (f j).den := by
 unfold frc
 rw [if_neg (by omega), show (j * 2 + 1) / 2 = j by omega]
theorem FrRow.num (h : FrRow w b N f) {j : Nat} (hj : j < N) : w.cell? ⟨b, j * 2, none⟩ = some (.int .i64 (f j).num) := by rw [← frc_num]; exact rowGe.cell h (by omega)
theorem FrRow.den (h : FrRow w b N f) {j : Nat} (hj : j < N) : w.cell? ⟨b, j * 2 + 1, none⟩ = some (.int .i64 (f j).den) := by rw [← frc_den]; exact rowGe.cell h (by omega)
theorem FrRow.lt (h : FrRow w b N f) : b < w.heap.size := rowGe.lt h
theorem FrRow.frozen (h : FrRow w b N f) (i : Nat) : w.frozen? ⟨b, i, none⟩ = false := rowGe.frozen h i
theorem FrRow.up (h : FrRow w b N f) (hb : Below w.heap.size w w') : FrRow w' b N f := rowGe.up h hb
theorem FrRow.of_block (h : FrRow w b N f) (e : w'.heap[b]? = w.heap[b]?) : FrRow w' b N f := rowGe.of_block h e
theorem FrRow.congr (h : FrRow w b N f) (e : ∀ j, j < N → f j = g j) : FrRow w b N g := rowGe.congr h fun i hi => by unfold frc; rw [e (i / 2) (by omega)]
theorem FrRow.set (h : FrRow w b N f) (j : Nat) (x : Rat) : FrRow ((w.setCell ⟨b, j * 2, none⟩ (.int .i64 x.num)).setCell ⟨b, j * 2 + 1, none⟩ (.int .i64 x.den)) b N (updF f j x) := by
 have h1 := rowGe.set (rowGe.set h (j * 2) (.int .i64 x.num)) (j * 2 + 1) (.int .i64 x.den)
 refine h1.congr fun i hi => ?_
 by_cases e1 : i = j * 2 + 1
 ·subst e1
  rw [if_pos rfl, frc_den]; unfold updF; rw [if_pos rfl]
 ·rw [if_neg e1]
  by_cases e2 : i = j * 2
  ·subst e2
   rw [if_pos rfl, frc_num]; unfold updF; rw [if_pos rfl]
  ·rw [if_neg e2]
   have e3 : ¬ i / 2 = j := by omega
   unfold frc updF
   simp only [if_neg e3]
theorem FrRow.rt (h : FrRow w b N f) (hN : N ≤ 1000000) : RtAt w (some ⟨b, 0, none⟩) N f :=
 ⟨hN, fun _ => ⟨b, 0, rfl, h.lt, fun j hj => ⟨by rw [Nat.zero_add]; exact h.num hj, by rw [Nat.zero_add]; exact h.den hj⟩⟩⟩
theorem rowGe.neb {w : World} {b b' : Nat} {t t' : TypeId} {n n' : Nat} {f f' : Nat → Value} (h : rowGe w b t n f) (h' : rowGe w b' t' n' f') (hne : t ≠ t') : b ≠ b' := fun e => by
 obtain ⟨c, hb, _⟩ := h
 obtain ⟨c', hb', _⟩ := h'
 rw [e, hb'] at hb
 injection hb with hb
 injection hb with _ ht
 exact hne ht.symm
theorem Kw.row {lo hi : Nat} {t : TypeId} {n : Nat} {f : Nat → Value} (hk : Kw lo hi w w') (h : rowGe w b t n f) (ho : b < lo ∨ hi ≤ b) : rowGe w' b t n f := h.of_block (hk.block b h.lt ho)
end

/-- Where a tableau's parts lie. -/
structure TbL where
 (A2 A3 A4 A5 : Option Addr) (c2 c3 c4 c5 gt gr gb gc : Nat) (rb cp : Nat → Nat)
structure TbG (B X m n N : Nat) (L : TbL) : Prop where
 e2 : 0 < m → L.A2 = some ⟨L.gt, 0, none⟩
 e3 : 0 < m → L.A3 = some ⟨L.gr, 0, none⟩
 e4 : 0 < m → L.A4 = some ⟨L.gb, 0, none⟩
 e5 : 0 < N → L.A5 = some ⟨L.gc, 0, none⟩
 inj : ∀ i j, i < m → j < m → L.rb i = L.rb j → i = j
 nr : ∀ i, i < m → L.rb i ≠ L.gr
 nc : ∀ i, i < m → L.rb i ≠ L.gc
 rc : 0 < m → L.gr ≠ L.gc
 lX : B ≤ X
 l2 : 0 < m → B ≤ L.gr ∧ B ≤ L.gb
 l5 : 0 < N → B ≤ L.gc
 lr : ∀ i, i < m → B ≤ L.rb i
 sm : N ≤ 200 ∧ m ≤ 100 ∧ n ≤ 100
/-- The cells of the tableau's struct. -/
def tbc (m n N : Nat) (L : TbL) (z : Rat) : Nat → Value
 | 0 => .int .i64 n
 | 1 => .int .i64 m
 | 2 => .slice L.A2 m L.c2
 | 3 => .slice L.A3 m L.c3
 | 4 => .slice L.A4 m L.c4
 | 5 => .slice L.A5 N L.c5
 | 6 => .int .i64 z.num
 | _ => .int .i64 z.den
structure TbM (w : World) (X m n N : Nat) (L : TbL) (T : TB) : Prop where
 box : rowGe w X 169 8 (tbc m n N L T.z)
 top : 0 < m → rowGe w L.gt 37 m fun i => .slice (some ⟨L.rb i, 0, none⟩) N (L.cp i)
 right : 0 < m → FrRow w L.gr m T.b
 basic : 0 < m → rowGe w L.gb 3 m fun i => .int .i64 (T.B i)
 goal : 0 < N → FrRow w L.gc N T.c
 rows : ∀ i, i < m → FrRow w (L.rb i) N (T.a i)
def updA (T : TB) (i : Nat) (f : Nat → Rat) : TB := { T with a := fun i' => if i' = i then f else T.a i' }
def updB (T : TB) (f : Nat → Rat) : TB := { T with b := f }
def updC (T : TB) (f : Nat → Rat) : TB := { T with c := f }
def updZ (T : TB) (z : Rat) : TB := { T with z := z }
def updN (T : TB) (r k : Nat) : TB := { T with B := fun i => if i = r then k else T.B i }
section
variable {w w' : World} {B X m n N : Nat} {L : TbL} {T T' : TB}
theorem TbM.up (h : TbM w X m n N L T) (hb : Below w.heap.size w w') : TbM w' X m n N L T :=
 ⟨h.box.up hb, fun h0 => (h.top h0).up hb, fun h0 => (h.right h0).up hb, fun h0 => (h.basic h0).up hb, fun h0 => (h.goal h0).up hb, fun i hi => (h.rows i hi).up hb⟩
theorem TbM.congr (h : TbM w X m n N L T) (hz : T.z = T'.z) (hb : ∀ i, i < m → T.b i = T'.b i) (hB : ∀ i, i < m → T.B i = T'.B i) (hc : ∀ j, j < N → T.c j = T'.c j) (ha : ∀ i, i < m → ∀ j, j < N → T.a i j = T'.a i j) : TbM w X m n N L T' :=
 ⟨hz ▸ h.box, h.top, fun h0 => (h.right h0).congr hb, fun h0 => (h.basic h0).congr fun i hi => by rw [hB i hi], fun h0 => (h.goal h0).congr hc, fun i hi => (h.rows i hi).congr (ha i hi)⟩
theorem TbM.rowA (h : TbM w X m n N L T) (hg : TbG B X m n N L) {i : Nat} (hi : i < m) (hk : Kw (L.rb i) (L.rb i + 1) w w') {f : Nat → Rat} (hr : FrRow w' (L.rb i) N f) : TbM w' X m n N L (updA T i f) := by
 have hi0 : 0 < m := by omega
 have n1 := rowGe.neb h.box (h.rows i hi) (by decide)
 have n2 := rowGe.neb (h.top hi0) (h.rows i hi) (by decide)
 have n3 := rowGe.neb (h.basic hi0) (h.rows i hi) (by decide)
 have n4 := hg.nr i hi
 have n5 := hg.nc i hi
 refine ⟨hk.row h.box (by omega), fun h0 => hk.row (h.top h0) (by omega), fun h0 => hk.row (h.right h0) (by omega), fun h0 => hk.row (h.basic h0) (by omega), fun h0 => hk.row (h.goal h0) (by omega), fun j hj => ?_⟩
 show FrRow w' (L.rb j) N (if j = i then f else T.a j)
 by_cases e : j = i
 ·subst e; rw [if_pos rfl]; exact hr
 ·rw [if_neg e]
  have : L.rb j ≠ L.rb i := fun e2 => e (hg.inj j i hj hi e2)
  exact hk.row (h.rows j hj) (by omega)
theorem TbM.rowB (h : TbM w X m n N L T) (hg : TbG B X m n N L) (hm : 0 < m) (hk : Kw L.gr (L.gr + 1) w w') {f : Nat → Rat} (hr : FrRow w' L.gr m f) : TbM w' X m n N L (updB T f) := by
 have n1 := rowGe.neb h.box (h.right hm) (by decide)
 have n2 := rowGe.neb (h.top hm) (h.right hm) (by decide)
 have n3 := rowGe.neb (h.basic hm) (h.right hm) (by decide)
 have n5 := hg.rc hm
 refine ⟨hk.row h.box (by omega), fun h0 => hk.row (h.top h0) (by omega), fun h0 => hr, fun h0 => hk.row (h.basic h0) (by omega), fun h0 => hk.row (h.goal h0) (by omega), fun j hj => ?_⟩
 have n4 := hg.nr j hj
 exact hk.row (h.rows j hj) (by omega)
theorem TbM.rowC (h : TbM w X m n N L T) (hg : TbG B X m n N L) (hN : 0 < N) (hk : Kw L.gc (L.gc + 1) w w') {f : Nat → Rat} (hr : FrRow w' L.gc N f) : TbM w' X m n N L (updC T f) := by
 have n1 := rowGe.neb h.box (h.goal hN) (by decide)
 refine ⟨hk.row h.box (by omega), fun h0 => ?_, fun h0 => ?_, fun h0 => ?_, fun h0 => hr, fun j hj => ?_⟩
 ·have n2 := rowGe.neb (h.top h0) (h.goal hN) (by decide)
  exact hk.row (h.top h0) (by omega)
 ·have n5 := hg.rc h0
  exact hk.row (h.right h0) (by omega)
 ·have n3 := rowGe.neb (h.basic h0) (h.goal hN) (by decide)
  exact hk.row (h.basic h0) (by omega)
 ·have n4 := hg.nc j hj
  exact hk.row (h.rows j hj) (by omega)
theorem TbM.boxZ (h : TbM w X m n N L T) (hk : Kw X (X + 1) w w') {z : Rat} (hr : rowGe w' X 169 8 (tbc m n N L z)) : TbM w' X m n N L (updZ T z) := by
 refine ⟨hr, fun h0 => ?_, fun h0 => ?_, fun h0 => ?_, fun h0 => ?_, fun j hj => ?_⟩
 ·have n2 := rowGe.neb (h.top h0) h.box (by decide)
  exact hk.row (h.top h0) (by omega)
 ·have n2 := rowGe.neb (h.right h0) h.box (by decide)
  exact hk.row (h.right h0) (by omega)
 ·have n2 := rowGe.neb (h.basic h0) h.box (by decide)
  exact hk.row (h.basic h0) (by omega)
 ·have n2 := rowGe.neb (h.goal h0) h.box (by decide)
  exact hk.row (h.goal h0) (by omega)
 ·have n2 := rowGe.neb (h.rows j hj) h.box (by decide)
  exact hk.row (h.rows j hj) (by omega)
theorem TbM.rowN (h : TbM w X m n N L T) (hm : 0 < m) {r k : Nat} (hk : Kw L.gb (L.gb + 1) w w') (hr : rowGe w' L.gb 3 m fun i => .int .i64 ((updN T r k).B i)) : TbM w' X m n N L (updN T r k) := by
 refine ⟨?_, fun h0 => ?_, fun h0 => ?_, fun h0 => hr, fun h0 => ?_, fun j hj => ?_⟩
 ·have n2 := rowGe.neb h.box (h.basic hm) (by decide)
  exact hk.row h.box (by omega)
 ·have n2 := rowGe.neb (h.top h0) (h.basic hm) (by decide)
  exact hk.row (h.top h0) (by omega)
 ·have n2 := rowGe.neb (h.right h0) (h.basic hm) (by decide)
  exact hk.row (h.right h0) (by omega)
 ·have n2 := rowGe.neb (h.goal h0) (h.basic hm) (by decide)
  exact hk.row (h.goal h0) (by omega)
 ·have n2 := rowGe.neb (h.rows j hj) (h.basic hm) (by decide)
  exact hk.row (h.rows j hj) (by omega)
/-- The tableau lies below block P. -/
def TbP (P X m N : Nat) (L : TbL) : Prop := X < P ∧ (0 < m → L.gt < P ∧ L.gr < P ∧ L.gb < P) ∧ (0 < N → L.gc < P) ∧ ∀ i, i < m → L.rb i < P
theorem TbM.tbp (h : TbM w X m n N L T) : TbP w.heap.size X m N L := ⟨h.box.lt, fun h0 => ⟨(h.top h0).lt, (h.right h0).lt, (h.basic h0).lt⟩, fun h0 => (h.goal h0).lt, fun i hi => (h.rows i hi).lt⟩
theorem TbM.low {P : Nat} (h : TbM w X m n N L T) (hP : TbP P X m N L) (hb : Below P w w') : TbM w' X m n N L T :=
 ⟨h.box.of_block (hb.block _ hP.1), fun h0 => (h.top h0).of_block (hb.block _ (hP.2.1 h0).1), fun h0 => (h.right h0).of_block (hb.block _ (hP.2.1 h0).2.1), fun h0 => (h.basic h0).of_block (hb.block _ (hP.2.1 h0).2.2), fun h0 => (h.goal h0).of_block (hb.block _ (hP.2.2.1 h0)), fun i hi => (h.rows i hi).of_block (hb.block _ (hP.2.2.2 i hi))⟩
/-- The struct's cells, one by one. -/
theorem TbM.c0 (h : TbM w X m n N L T) : w.cell? ⟨X, 0, none⟩ = some (.int .i64 n) := h.box.cell (i := 0) (by omega)
theorem TbM.c1 (h : TbM w X m n N L T) : w.cell? ⟨X, 1, none⟩ = some (.int .i64 m) := h.box.cell (i := 1) (by omega)
theorem TbM.c2 (h : TbM w X m n N L T) : w.cell? ⟨X, 2, none⟩ = some (.slice L.A2 m L.c2) := h.box.cell (i := 2) (by omega)
theorem TbM.c3 (h : TbM w X m n N L T) : w.cell? ⟨X, 3, none⟩ = some (.slice L.A3 m L.c3) := h.box.cell (i := 3) (by omega)
theorem TbM.c4 (h : TbM w X m n N L T) : w.cell? ⟨X, 4, none⟩ = some (.slice L.A4 m L.c4) := h.box.cell (i := 4) (by omega)
theorem TbM.c5 (h : TbM w X m n N L T) : w.cell? ⟨X, 5, none⟩ = some (.slice L.A5 N L.c5) := h.box.cell (i := 5) (by omega)
theorem TbM.c6 (h : TbM w X m n N L T) : w.cell? ⟨X, 6, none⟩ = some (.int .i64 T.z.num) := h.box.cell (i := 6) (by omega)
theorem TbM.c7 (h : TbM w X m n N L T) : w.cell? ⟨X, 7, none⟩ = some (.int .i64 T.z.den) := h.box.cell (i := 7) (by omega)
theorem TbM.lt (h : TbM w X m n N L T) : X < w.heap.size := h.box.lt
end

end Go.Proofs.YtaampjhdgeoicaaGreat

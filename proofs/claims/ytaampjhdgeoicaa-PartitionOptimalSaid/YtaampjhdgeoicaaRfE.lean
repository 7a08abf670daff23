/- The reference's Begin. -/
import Derived.Test.YtaampjhdgeoicaaRfD
import Derived.Test.YtaampjhdgeoicaaAppX
namespace Go.Proofs.Ytaampjhdgeoicaa
set_option linter.unusedSimpArgs false
set_option linter.unusedVariables false
open Go Go.RowKit
set_option linter.unusedVariables false

theorem infoRw : (Try.prog.info? 73).map (fun i => (i.zero, i.size, i.bytes)) = some (some (.slice none 0 0), 1, 24) := by kernel_rfl
theorem undRws : Try.prog.underlying 72 = some (.slice 73) := by kernel_rfl
/-- The reference's tableau in a box. -/
def txf (v0 v1 v2 : Value) : Nat → Value
  | 0 => v0
  | 1 => v1
  | _ => v2
def Tx (w : World) (X : Nat) (v0 v1 v2 : Value) : Prop := rowGe w X 75 3 (txf v0 v1 v2)
section
variable {w w' : World} {X B s k : Nat} {e : TypeId} {v v0 v1 v2 : Value} {xs : List Value}
theorem Tx.new (w : World) (v0 v1 v2 : Value) : Tx (w.alloc (.cells #[v0, v1, v2] 75)) w.heap.size v0 v1 v2 :=
  ⟨_, heap_alloc_new _ _, by simp, fun i hi => by rcases i with _ | _ | _ | i <;> first | rfl | omega⟩
theorem Tx.c0 (h : Tx w X v0 v1 v2) : w.cell? ⟨X, 0, none⟩ = some v0 := rowGe.cell h (i := 0) (by decide)
theorem Tx.c1 (h : Tx w X v0 v1 v2) : w.cell? ⟨X, 1, none⟩ = some v1 := rowGe.cell h (i := 1) (by decide)
theorem Tx.c2 (h : Tx w X v0 v1 v2) : w.cell? ⟨X, 2, none⟩ = some v2 := rowGe.cell h (i := 2) (by decide)
theorem Tx.fz (h : Tx w X v0 v1 v2) (i : Nat) : w.frozen? ⟨X, i, none⟩ = false := rowGe.frozen h i
theorem Tx.lt (h : Tx w X v0 v1 v2) : X < w.heap.size := rowGe.lt h
theorem Tx.up (h : Tx w X v0 v1 v2) (hb : Below w.heap.size w w') : Tx w' X v0 v1 v2 := rowGe.up h hb
theorem Tx.grown (h : Tx w X v0 v1 v2) (ho : w.ownsRow B e s v k xs) (hg : w.grownBy w' v.ownBlock) (hne : 75 ≠ e) : Tx w' X v0 v1 v2 := rowGe.grown h hg (rowGe.ne h ho hne)
theorem Tx.set0 (h : Tx w X v0 v1 v2) (u : Value) : Tx (w.setCell ⟨X, 0, none⟩ u) X u v1 v2 := (rowGe.set h 0 u).congr fun i hi => by rcases i with _ | _ | _ | i <;> first | rfl | omega
theorem Tx.set1 (h : Tx w X v0 v1 v2) (u : Value) : Tx (w.setCell ⟨X, 1, none⟩ u) X v0 u v2 := (rowGe.set h 1 u).congr fun i hi => by rcases i with _ | _ | _ | i <;> first | rfl | omega
theorem Tx.set2 (h : Tx w X v0 v1 v2) (u : Value) : Tx (w.setCell ⟨X, 2, none⟩ u) X v0 v1 u := (rowGe.set h 2 u).congr fun i hi => by rcases i with _ | _ | _ | i <;> first | rfl | omega
theorem Tx.put (h : Tx w X v0 v1 v2) (ho : w.ownsRow B e s v k xs) (hne : 75 ≠ e) (i : Nat) (u : Value) : (w.setCell ⟨X, i, none⟩ u).ownsRow B e s v k xs := own_put ho (p := ⟨X, i, none⟩) (show some X ≠ v.ownBlock from rowGe.ne h ho hne) u
end
theorem rows_apart {w : World} {a b n m : Nat} {s t : TypeId} {f g : Nat → Value} (h1 : rowGe w a s n f) (h2 : rowGe w b t m g) (hne : s ≠ t) : a ≠ b := fun e => by
  obtain ⟨c, h3, _⟩ := h1
  obtain ⟨d, h4, _⟩ := h2
  rw [e, h4] at h3
  injection h3 with h3
  injection h3 with _ ht
  exact hne ht.symm
/-- The rows laid so far. -/
structure RwrAt (w : World) (B k N : Nat) (F : Nat → Nat → Rat) (v : Value) (rb cp : Nat → Nat) : Prop where
  own : w.ownsRow B 73 1 v k ((List.range k).map fun i => .slice (some ⟨rb i, 0, none⟩) N (cp i))
  rows : ∀ i, i < k → FrRow w (rb i) N (F i)
section
variable {w w' : World} {B k N g c X : Nat} {F : Nat → Nat → Rat} {v2 v u : Value} {rb cp : Nat → Nat}
theorem RwrAt.nil : RwrAt w B 0 N F (.slice none 0 0) rb cp := ⟨World.ownsRow_nil _ _ _ _, fun i hi => absurd hi (by omega)⟩
theorem RwrAt.up (h : RwrAt w B k N F v2 rb cp) (hb : Below w.heap.size w w') : RwrAt w' B k N F v2 rb cp := ⟨own_below h.own hb, fun i hi => (h.rows i hi).up hb⟩
theorem RwrAt.put {a0 a1 a2 : Value} (h : RwrAt w B k N F v2 rb cp) (hX : Tx w X a0 a1 a2) (i : Nat) (u : Value) : RwrAt (w.setCell ⟨X, i, none⟩ u) B k N F v2 rb cp :=
  ⟨hX.put h.own (by decide) i u, fun j hj => (h.rows j hj).of_block (Below.heap_setCell _ _ _ _ (rows_apart (h.rows j hj) hX (by decide)))⟩
theorem RwrAt.push (h : RwrAt w B k N F v2 rb cp) (hr : FrRow w g N (F k)) (ho : w'.ownsRow B 73 1 v (k + 1) (((List.range k).map fun i => .slice (some ⟨rb i, 0, none⟩) N (cp i)) ++ [.slice (some ⟨g, 0, none⟩) N c])) (hg : w.grownBy w' v2.ownBlock) : RwrAt w' B (k + 1) N F v (upn rb k g) (upn cp k c) where
  own := by
    have e : ((List.range (k + 1)).map fun i => Value.slice (some ⟨upn rb k g i, 0, none⟩) N (upn cp k c i)) = ((List.range k).map fun i => .slice (some ⟨rb i, 0, none⟩) N (cp i)) ++ [.slice (some ⟨g, 0, none⟩) N c] := by
      rw [List.range_succ, List.map_append]
      congr 1
      · refine List.map_congr_left fun i hi => ?_
        have : i ≠ k := by have := List.mem_range.1 hi; omega
        unfold upn
        rw [if_neg this, if_neg this]
      · simp [upn]
    rw [e]
    exact ho
  rows := fun i hi => by
    unfold upn
    by_cases e : i = k
    · subst e
      rw [if_pos rfl]
      exact rowGe.grown hr hg (rowGe.ne hr h.own (by decide))
    · rw [if_neg e]
      exact rowGe.grown (h.rows i (by omega)) hg (rowGe.ne (h.rows i (by omega)) h.own (by decide))
theorem RwrAt.kept {B2 s n : Nat} {e : TypeId} {xs : List Value} (h : RwrAt w B k N F v2 rb cp) (ho : w.ownsRow B2 e s v n xs) (hg : w.grownBy w' v.ownBlock) (h1 : 73 ≠ e) (h2 : 29 ≠ e) : RwrAt w' B k N F v2 rb cp :=
  ⟨h.own.kept hg (own_apt3 h.own ho h1), fun i hi => rowGe.grown (h.rows i hi) hg (rowGe.ne (h.rows i hi) ho h2)⟩
end
/-- The rows and the objective as the reference holds them. -/
def rowF (T : TB) (N i j : Nat) : Rat := if j < N then T.a i j else T.b i
def objF (T : TB) (N j : Nat) : Rat := if j < N then T.c j else -T.z
def rwsL (F : Nat → Nat → Rat) (m N1 : Nat) : List (List (Int × Int)) := (List.range m).map fun i => frq (F i) N1
def basL (f : Nat → Nat) (m : Nat) : List Int := (List.range m).map fun i => (f i : Int)
theorem rwsL_len (F : Nat → Nat → Rat) (m N1 : Nat) : (rwsL F m N1).length = m := by unfold rwsL; simp
theorem mr_rws {F : Nat → Nat → Rat} {m N1 i : Nat} (h : i < m) : mr (rwsL F m N1) i = frq (F i) N1 := by unfold mr rwsL; simp [List.getD, h]
theorem basL_len (f : Nat → Nat) (m : Nat) : (basL f m).length = m := by unfold basL; simp
theorem basL_at {f : Nat → Nat} {m i : Nat} (h : i < m) : nth (basL f m) i = f i := by unfold nth basL; simp [List.getD, h]
theorem frq_of {l : List (Int × Int)} {N : Nat} {f : Nat → Rat} (h : NumsOf l N f) : l = frq f N := by
  obtain ⟨h1, h2⟩ := h
  show l = (List.range N).map fun j => ((f j).num, ((f j).den : Int))
  refine List.ext_getElem (by rw [h1, List.length_map, List.length_range]) fun j hj hj' => ?_
  obtain ⟨h3, h4⟩ := h2 j (by omega)
  simp only [List.getElem_map, List.getElem_range]
  rw [h3, h4]
  unfold fv fx
  simp [List.getD, hj]
theorem frq_congr {f g : Nat → Rat} {N : Nat} (h : ∀ j, j < N → f j = g j) : frq f N = frq g N := by
  unfold frq
  exact List.map_congr_left fun j hj => by rw [h j (List.mem_range.1 hj)]
structure TabAt (w : World) (m N1 : Nat) (F : Nat → Nat → Rat) (g : Nat → Rat) (f : Nat → Nat) (A0 A1 A2 : Option Addr) (c2 : Nat) : Prop where
  rows : MxAt w A0 (rwsL F m N1)
  obj : FactsAt w w.heap.size A1 (frq g N1)
  bas : IntsAt w w.heap.size A2 (basL f m)
  nil : A2 = none → c2 = 0
/-- Rows in memory, with the types of their blocks. -/
def RowsT (w : World) (m N1 : Nat) (F : Nat → Nat → Rat) (A : Option Addr) : Prop := ∃ rb cp : Nat → Nat, (0 < m → ∃ b, A = some ⟨b, 0, none⟩ ∧ rowGe w b 73 m fun i => .slice (some ⟨rb i, 0, none⟩) N1 (cp i)) ∧ ∀ i, i < m → FrRow w (rb i) N1 (F i)
/-- A tableau in memory, with the types of its blocks. -/
structure TabT (w : World) (m N1 : Nat) (F : Nat → Nat → Rat) (g : Nat → Rat) (f : Nat → Nat) (A0 A1 A2 : Option Addr) (c2 : Nat) : Prop where
  rows : RowsT w m N1 F A0
  obj : ∃ q, A1 = some ⟨q, 0, none⟩ ∧ FrRow w q N1 g
  bas : 0 < m → ∃ b, A2 = some ⟨b, 0, none⟩ ∧ rowGe w b 3 m fun i => .int .i64 (f i : Int)
  nil : A2 = none → c2 = 0
def TabR (w : World) (T : TB) (m N : Nat) (v : Value) : Prop := ∃ A0 A1 A2 c0 c1 c2, v = .agg #[.slice A0 m c0, .slice A1 (N + 1) c1, .slice A2 m c2] ∧ TabT w m (N + 1) (rowF T N) (objF T N) T.B A0 A1 A2 c2
theorem RowsT.up {w w' : World} {m N1 : Nat} {F : Nat → Nat → Rat} {A : Option Addr} (h : RowsT w m N1 F A) (hb : Below w.heap.size w w') : RowsT w' m N1 F A := by
  obtain ⟨rb, cp, h1, h2⟩ := h
  refine ⟨rb, cp, fun h0 => ?_, fun i hi => (h2 i hi).up hb⟩
  obtain ⟨b, e, hr⟩ := h1 h0
  exact ⟨b, e, rowGe.up hr hb⟩
theorem TabT.up {w w' : World} {m N1 : Nat} {F : Nat → Nat → Rat} {g : Nat → Rat} {f : Nat → Nat} {A0 A1 A2 : Option Addr} {c2 : Nat} (h : TabT w m N1 F g f A0 A1 A2 c2) (hb : Below w.heap.size w w') : TabT w' m N1 F g f A0 A1 A2 c2 where
  rows := h.rows.up hb
  obj := by
    obtain ⟨q, e, hr⟩ := h.obj
    exact ⟨q, e, hr.up hb⟩
  bas := fun h0 => by
    obtain ⟨b, e, hr⟩ := h.bas h0
    exact ⟨b, e, rowGe.up hr hb⟩
  nil := h.nil
theorem RowsT.mx {w : World} {m N1 : Nat} {F : Nat → Nat → Rat} {A : Option Addr} (h : RowsT w m N1 F A) (hN : N1 ≤ 1000) (hm : m ≤ 1000) : MxAt w A (rwsL F m N1) := by
  obtain ⟨rb, cp, h1, h2⟩ := h
  refine ⟨by rw [rwsL_len]; omega, fun h0 => ?_⟩
  rw [rwsL_len] at h0
  obtain ⟨g, rfl, hr⟩ := h1 h0
  refine ⟨g, 0, rfl, hr.lt, fun i hi => ?_⟩
  rw [rwsL_len] at hi
  refine ⟨some ⟨rb i, 0, none⟩, cp i, ?_, (fun e => nomatch e), ?_⟩
  · rw [Nat.zero_add, mr_rws hi, frq_len]
    exact hr.cell hi
  · rw [mr_rws hi]
    exact fr_facts (h2 i hi) hN
theorem RwrAt.tt {w : World} {B k N : Nat} {F : Nat → Nat → Rat} {v : Value} {rb cp : Nat → Nat} (h : RwrAt w B k N F v rb cp) : ∃ A c, v = .slice A k c ∧ RowsT w k N F A := by
  obtain ⟨A, c, e, hg⟩ := rowGe_own h.own (fun i => .slice (some ⟨rb i, 0, none⟩) N (cp i)) fun i hi => by simp [hi]
  exact ⟨A, c, e, rb, cp, fun h0 => by obtain ⟨g, e, _, hr⟩ := hg h0; exact ⟨g, e, hr⟩, h.rows⟩
theorem intsAt_up {w w' : World} {A : Option Addr} {l : List Int} (h : IntsAt w w.heap.size A l) (hb : Below w.heap.size w w') : IntsAt w' w'.heap.size A l := h.keep (fun _ hp => hb.cell hp) hb.size
theorem TabAt.up {w w' : World} {m N1 : Nat} {F : Nat → Nat → Rat} {g : Nat → Rat} {f : Nat → Nat} {A0 A1 A2 : Option Addr} {c2 : Nat} (h : TabAt w m N1 F g f A0 A1 A2 c2) (hb : Below w.heap.size w w') : TabAt w' m N1 F g f A0 A1 A2 c2 := ⟨h.rows.up hb, factsAt_up h.obj hb, intsAt_up h.bas hb, h.nil⟩
theorem RwrAt.mx {w : World} {B k N : Nat} {F : Nat → Nat → Rat} {v : Value} {rb cp : Nat → Nat} (h : RwrAt w B k N F v rb cp) (hN : N ≤ 1000) (hk : k ≤ 1000) : ∃ A c, v = .slice A k c ∧ MxAt w A (rwsL F k N) := by
  obtain ⟨A, c, e, hg⟩ := rowGe_own h.own (fun i => .slice (some ⟨rb i, 0, none⟩) N (cp i)) fun i hi => by simp [hi]
  refine ⟨A, c, e, by rw [rwsL_len]; omega, fun h0 => ?_⟩
  rw [rwsL_len] at h0
  obtain ⟨g, rfl, _, hr⟩ := hg h0
  refine ⟨g, 0, rfl, hr.lt, fun i hi => ?_⟩
  rw [rwsL_len] at hi
  refine ⟨some ⟨rb i, 0, none⟩, cp i, ?_, (fun e => nomatch e), ?_⟩
  · rw [Nat.zero_add, mr_rws hi, frq_len]
    exact hr.cell hi
  · rw [mr_rws hi]
    exact fr_facts (h.rows i hi) hN
theorem nums_last {l : List (Int × Int)} {N : Nat} {f : Nat → Rat} {x : Rat} {p q : Int} (h : NumsOf l N f) (hp : x.num = p) (hq : (x.den : Int) = q) : NumsOf (l ++ [(p, q)]) (N + 1) (fun j => if j < N then f j else x) := by
  obtain ⟨h1, h2⟩ := h
  refine ⟨by rw [List.length_append, h1]; rfl, fun j hj => ?_⟩
  dsimp only
  by_cases e : j < N
  · rw [if_pos e]
    obtain ⟨h3, h4⟩ := h2 j e
    rw [h3, h4]
    unfold fv fx
    simp [List.getD, List.getElem?_append_left (show j < l.length by omega)]
  · rw [if_neg e]
    obtain rfl : j = N := by omega
    rw [hp, hq]
    unfold fv fx
    simp [List.getD, List.getElem?_append_right (show l.length ≤ j by omega), h1]
theorem bas_own {w : World} {B : Nat} {v : Value} {n k : Nat} (h : w.ownsRow B 3 1 v (bsN n k).length (ic (bsN n k))) (hk : k ≤ 1000) : ∃ A c, v = .slice A k c ∧ (A = none → c = 0) ∧ IntsAt w w.heap.size A (basL (fun i => n + i) k) := by
  have e : bsN n k = basL (fun i => n + i) k := rfl
  obtain ⟨A, c, h1, h2, h3⟩ := own_ints2 h (by rw [bsN_len]; omega)
  rw [bsN_len] at h1
  exact ⟨A, c, h1, h2, h3⟩
theorem bas_row {w : World} {g m : Nat} {f : Nat → Nat} (h : rowGe w g 3 m (fun i => .int .i64 (f i : Int))) (hm : m ≤ 1000) : IntsAt w w.heap.size (some ⟨g, 0, none⟩) (basL f m) :=
  ⟨by rw [basL_len]; omega, fun _ => ⟨g, 0, rfl, h.lt, fun j hj => by
    rw [basL_len] at hj
    rw [Nat.zero_add, basL_at hj]
    exact h.cell hj⟩⟩
theorem TabT.at_ {w : World} {m N1 : Nat} {F : Nat → Nat → Rat} {g : Nat → Rat} {f : Nat → Nat} {A0 A1 A2 : Option Addr} {c2 : Nat} (h : TabT w m N1 F g f A0 A1 A2 c2) (hN : N1 ≤ 1000) (hm : m ≤ 1000) : TabAt w m N1 F g f A0 A1 A2 c2 where
  rows := h.rows.mx hN hm
  obj := by
    obtain ⟨q, rfl, hr⟩ := h.obj
    exact fr_facts hr hN
  bas := by
    by_cases h0 : 0 < m
    · obtain ⟨b, rfl, hr⟩ := h.bas h0
      exact bas_row hr hm
    · exact ⟨by rw [basL_len]; omega, fun h1 => by rw [basL_len] at h1; omega⟩
  nil := h.nil
theorem bas_own2 {w : World} {B : Nat} {v : Value} {n k : Nat} (h : w.ownsRow B 3 1 v (bsN n k).length (ic (bsN n k))) (hk : k ≤ 1000) : ∃ A c, v = .slice A k c ∧ (A = none → c = 0) ∧ (0 < k → ∃ g, A = some ⟨g, 0, none⟩ ∧ rowGe w g 3 k fun i => .int .i64 ((n + i : Nat) : Int)) := by
  obtain ⟨A, c, h1, h2, _⟩ := bas_own h hk
  rw [bsN_len] at h
  obtain ⟨A', c', h3, h4⟩ := rowGe_own h (fun i => .int .i64 ((n + i : Nat) : Int)) fun i hi => by
    unfold ic bsN
    simp [hi]
  refine ⟨A, c, h1, h2, fun h0 => ?_⟩
  rw [h1] at h3
  injection h3 with h5 _ _
  obtain ⟨g, e, _, hr⟩ := h4 h0
  exact ⟨g, h5.trans e, hr⟩

end Go.Proofs.Ytaampjhdgeoicaa

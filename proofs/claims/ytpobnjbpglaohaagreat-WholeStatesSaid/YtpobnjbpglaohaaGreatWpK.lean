/- A registry in memory; what others' changes leave of it. -/
import Derived.Test.YtpobnjbpglaohaaGreatWpJ
namespace Go.Proofs.YtpobnjbpglaohaaGreat
set_option linter.unusedSimpArgs false
set_option linter.unusedVariables false
open Go Go.RowKit Go.Maps
set_option linter.unusedVariables false

def stI (S : List (List Int)) (i : Nat) : List Int := S.getD i []
/-- The ids of the states with a hash. -/
def idsH (F : List Fld) (n : Nat) (S : List (List Int)) (h : Int) : List Int := ((List.range S.length).filter fun i => decide (hashW (wdsOf F n (stI S i)) = h)).map fun i : Nat => (i : Int)
/-- The cells of the entries. -/
def entC (n : Nat) (wb : Nat → Nat) : List (Int × Int × Int) → Nat → List Value
  | [], _ => []
  | (a, b, c) :: r, i => [.slice (some ⟨wb i, 0, none⟩) n n, .int .i64 a, .int .i64 b, .int .i64 c] ++ entC n wb r (i + 1)
/-- The blocks that a registry writes. -/
def RegOwn (R mb : Nat) (E : Value) (es : Array MapEntry) (b : Nat) : Prop := b = R ∨ b = mb ∨ E.ownBlock = some b ∨ ∃ h v, IsAt es.toList h v ∧ v.ownBlock = some b
structure RegC (w : World) (base R p mb : Nat) (E : Value) (es : Array MapEntry) (F : List Fld) (n : Nat) (S : List (List Int)) (L : List (Int × Int × Int)) (wb : Nat → Nat) : Prop where
  ge : base ≤ R ∧ base ≤ mb
  box : BxI w R 87 #[.pointer (some ⟨p, 0, none⟩), E, .map (some mb)]
  pk : PkAt w (fun b => base ≤ b) p F n
  fok : FOk F n
  len : L.length = S.length
  small : S.length ≤ 60000
  ents : w.ownsRow base 98 4 E S.length (entC n wb L 0)
  wds : ∀ i, i < S.length → BxI w (wb i) 100 (u64C (wdsOf F n (stI S i))).toArray
  map : ∃ clock, w.heap[mb]? = some (.map es clock)
  tab : TabOk es.toList
  rows : ∀ h v, IsAt es.toList h v → w.ownsRow base 3 1 v (idsH F n S h).length (ic (idsH F n S h))
  apt : ∀ h h' v v', h ≠ h' → IsAt es.toList h v → IsAt es.toList h' v' → Apt v v'
  ok : ∀ i, i < S.length → StOk F (stI S i)
  once : ∀ i j, i < S.length → j < S.length → stI S i = stI S j → i = j
section
variable {w w' : World} {base R p mb : Nat} {E : Value} {es : Array MapEntry} {F : List Fld} {n : Nat} {S : List (List Int)} {L : List (Int × Int × Int)} {wb : Nat → Nat}
theorem own_blk {B s m : Nat} {e : TypeId} {v : Value} {xs : List Value} (h : w.ownsRow B e s v m xs) {g : Nat} (hg : v.ownBlock = some g) : ∃ cur, w.heap[g]? = some (.cells cur e (0, 0)) := by
  rcases h.2 with ⟨h0, _⟩ | ⟨b, cap, cur, h1, hb, hg', _⟩
  · rw [h0] at hg; cases hg
  · rw [h1] at hg
    simp [Value.ownBlock] at hg
    subst hg
    exact ⟨cur, hg'⟩
/-- What others change leaves a registry as it was. -/
theorem RegC.keep {c : Nat → Prop} (h : RegC w base R p mb E es F n S L wb) (k : Kb c w w') (hb : ∀ b, c b → base ≤ b) (ho : ∀ b, c b → ¬ RegOwn R mb E es b) (hw : ∀ b, c b → ∀ i, i < S.length → b ≠ wb i) : RegC w' base R p mb E es F n S L wb := by
  obtain ⟨clock, hm⟩ := h.map
  refine { h with box := h.box.kb k (fun hc => ho R hc (.inl rfl)), pk := ?_, ents := own_kb h.ents k (fun g hg hc => ho g hc (.inr (.inr (.inl hg)))), wds := fun i hi => (h.wds i hi).kb k (fun hc => hw _ hc i hi rfl), map := ⟨clock, ?_⟩, rows := fun q v hq => own_kb (h.rows q v hq) k (fun g hg hc => ho g hc (.inr (.inr (.inr ⟨q, v, hq, hg⟩)))) }
  · exact h.pk.move ⟨k.size, fun b h1 h2 => k.block b h1 (fun hc => h2 (hb b hc)), fun b _ h => h⟩
  · exact (k.block mb (Array.getElem?_eq_some_iff.1 hm).1 (fun hc => ho mb hc (.inr (.inl rfl)))).trans hm
/-- The types of what a registry writes. -/
theorem RegC.types (h : RegC w base R p mb E es F n S L wb) {b : Nat} (hb : RegOwn R mb E es b) : base ≤ b ∧ b < w.heap.size ∧ ((∃ cur cl, w.heap[b]? = some (.map cur cl)) ∨ ∃ cur e, w.heap[b]? = some (.cells cur e (0, 0)) ∧ (e = 87 ∨ e = 98 ∨ e = 3)) := by
  rcases hb with rfl | rfl | hb | ⟨q, v, hq, hb⟩
  · exact ⟨h.ge.1, h.box.lt, .inr ⟨_, _, h.box, .inl rfl⟩⟩
  · obtain ⟨clock, hm⟩ := h.map
    exact ⟨h.ge.2, (Array.getElem?_eq_some_iff.1 hm).1, .inl ⟨_, _, hm⟩⟩
  · obtain ⟨cur, hc⟩ := own_blk h.ents hb
    exact ⟨(h.ents.lt _ hb).1, (h.ents.lt _ hb).2, .inr ⟨_, _, hc, .inr (.inl rfl)⟩⟩
  · obtain ⟨cur, hc⟩ := own_blk (h.rows q v hq) hb
    exact ⟨((h.rows q v hq).lt _ hb).1, ((h.rows q v hq).lt _ hb).2, .inr ⟨_, _, hc, .inr (.inr rfl)⟩⟩
theorem entC_len (n : Nat) (wb : Nat → Nat) : ∀ (L : List (Int × Int × Int)) (i : Nat), (entC n wb L i).length = L.length * 4
  | [], _ => rfl
  | (a, b, c) :: r, i => by
    rw [entC, List.length_append, entC_len n wb r (i + 1)]
    simp
    omega
theorem entC_get (n : Nat) (wb : Nat → Nat) : ∀ (L : List (Int × Int × Int)) (k i : Nat), k < L.length → (entC n wb L i)[k * 4]? = some (.slice (some ⟨wb (i + k), 0, none⟩) n n) ∧ (entC n wb L i)[k * 4 + 1]? = some (.int .i64 (L.getD k (0, 0, 0)).1) ∧
    (entC n wb L i)[k * 4 + 2]? = some (.int .i64 (L.getD k (0, 0, 0)).2.1) ∧ (entC n wb L i)[k * 4 + 3]? = some (.int .i64 (L.getD k (0, 0, 0)).2.2)
  | (a, b, c) :: r, 0, i, _ => ⟨rfl, rfl, rfl, rfl⟩
  | (a, b, c) :: r, k + 1, i, h => by
    obtain ⟨h0, h1, h2, h3⟩ := entC_get n wb r k (i + 1) (by simpa using h)
    have g : ∀ j, (entC n wb ((a, b, c) :: r) i)[(k + 1) * 4 + j]? = (entC n wb r (i + 1))[k * 4 + j]? := fun j => by
      rw [entC, List.getElem?_append_right (by simp; omega)]
      congr 1
      simp
      omega
    rw [show i + 1 + k = i + (k + 1) by omega] at h0
    exact ⟨(g 0).trans h0, (g 1).trans h1, (g 2).trans h2, (g 3).trans h3⟩
end
end Go.Proofs.YtpobnjbpglaohaaGreat

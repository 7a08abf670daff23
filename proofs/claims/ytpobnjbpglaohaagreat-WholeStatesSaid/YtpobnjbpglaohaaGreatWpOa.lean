/- registry: Add, plain: what one state more makes of a registry. -/
import Derived.Test.YtpobnjbpglaohaaGreatWpN
namespace Go.Proofs.YtpobnjbpglaohaaGreat
set_option linter.unusedSimpArgs false
set_option linter.unusedVariables false
open Go Go.RowKit Go.Maps
set_option linter.unusedVariables false

theorem Kb.mono {bad bad' : Nat → Prop} {w w' : World} (h : Kb bad w w') (hb : ∀ b, b < w.heap.size → bad b → bad' b) : Kb bad' w w' :=
  ⟨h.os, h.tape, h.output, h.size, fun k hk ho => h.block k hk fun h1 => ho (hb k hk h1)⟩
theorem kb_grown {w w' : World} {row : Option Nat} (hg : w.grownBy w' row) : Kb (fun b => row = some b) w w' := (Kb.refl _ w).grown hg (fun k e => .inl e)
theorem kb_set {w : World} {p : Addr} (u : Value) : Kb (fun b => b = p.block) w (w.setCell p u) := (Kb.refl (fun b => b = p.block) w).set (p := p) (.inl rfl) u
theorem kb_alloc (w : World) (o : Obj) (bad : Nat → Prop) : Kb bad w (w.alloc o) := (Kb.refl _ w).alloc o
theorem own_kb1 {w w' : World} {c : Nat → Prop} {B s n : Nat} {e : TypeId} {v : Value} {xs : List Value} (h : w.ownsRow B e s v n xs) (k : Kb c w w') (hb : ∀ g, v.ownBlock = some g → ¬ c g) : w'.ownsRow B e s v n xs := own_kb h k hb
/-- One state more. -/
theorem radd_reg {w1 w9 w13 : World} {base R p mb : Nat} {E v v9 v13 : Value} {es es' : Array MapEntry} {F : List Fld} {n : Nat} {S : List (List Int)} {L : List (Int × Int × Int)} {wb : Nat → Nat} (h : RegC w1 base R p mb E es F n S L wb)
    {s : List Int} {hq : Int} {g ck : Nat} {o1 o2 : Obj} (hhq : hq = hashW (wdsOf F n s)) (hok : StOk F s) (hno : ∀ i, i < S.length → stI S i ≠ s) (hsm : S.length < 60000) (hg : BxI w1 g 100 (u64C (wdsOf F n s)).toArray)
    (hv : IsAt es.toList hq v)
    (hgr9 : (w1.alloc o1).grownBy w9 E.ownBlock) (hown9 : w9.ownsRow base 98 4 v9 (S.length + 1) (entC n wb L 0 ++ [.slice (some ⟨g, 0, none⟩) n n, .int .i64 (-1), .int .i64 (-1), .int .i64 0]))
    (hat9 : v9.ownBlock = E.ownBlock ∨ v9.ownBlock = some (w1.alloc o1).heap.size)
    (hgr13 : ((w9.setCell ⟨R, 1, none⟩ v9).alloc o2).grownBy w13 v.ownBlock) (hown13 : w13.ownsRow base 3 1 v13 ((idsH F n S hq).length + 1) (ic (idsH F n S hq) ++ [.int .i64 (S.length : Nat)]))
    (hat13 : v13.ownBlock = v.ownBlock ∨ v13.ownBlock = some ((w9.setCell ⟨R, 1, none⟩ v9).alloc o2).heap.size)
    (htok : TabOk es'.toList) (hia : IsAt es'.toList hq v13) (hio : ∀ h', h' ≠ hq → ∀ v', IsAt es'.toList h' v' ↔ IsAt es.toList h' v') :
    Kb (RegOwn R mb E es) w1 (ChangeMaps.setBlock w13 mb (.map es' ck)) ∧ ∃ wb', RegC (ChangeMaps.setBlock w13 mb (.map es' ck)) base R p mb v9 es' F n (S ++ [s]) (L ++ [(-1, -1, 0)]) wb' ∧
      (∀ b, b < w1.heap.size → RegOwn R mb v9 es' b → RegOwn R mb E es b) ∧ (∀ i, i < S.length → wb' i = wb i) ∧ wb' S.length = g := by
  have hbase : base ≤ w1.heap.size := Nat.le_trans h.ge.1 (Nat.le_of_lt h.box.lt)
  have hRlt := h.box.lt
  obtain ⟨clock, hmb⟩ := h.map
  have hmlt : mb < w1.heap.size := (Array.getElem?_eq_some_iff.1 hmb).1
  have hsz1 : (w1.alloc o1).heap.size = w1.heap.size + 1 := by simp
  have hs9 : w1.heap.size + 1 ≤ w9.heap.size := by have := hgr9.size; rw [hsz1] at this; exact this
  have hszy : ((w9.setCell ⟨R, 1, none⟩ v9).alloc o2).heap.size = w9.heap.size + 1 := by simp [World.setCell]
  have hs13 : w9.heap.size + 1 ≤ w13.heap.size := by have := hgr13.size; rw [hszy] at this; exact this
  -- the four steps
  have KA : Kb (fun b => E.ownBlock = some b) w1 w9 := (kb_alloc w1 o1 _).trans (kb_grown hgr9)
  have KB : Kb (fun b => b = R) w9 (w9.setCell ⟨R, 1, none⟩ v9) := kb_set (p := ⟨R, 1, none⟩) v9
  have KC : Kb (fun b => v.ownBlock = some b) (w9.setCell ⟨R, 1, none⟩ v9) w13 := (kb_alloc _ o2 _).trans (kb_grown hgr13)
  have KD : Kb (fun b => b = mb) w13 (ChangeMaps.setBlock w13 mb (.map es' ck)) := (Kb.refl (fun b => b = mb) w13).block1 (.inl rfl) _
  -- what lies apart from what
  have hRm := h.farR.1
  have hEf := fun b hb => h.farE (b := b) hb
  have hvR : v.ownBlock ≠ some R := h.farR.2.1 hq v hv
  have hvM : v.ownBlock ≠ some mb := h.farM.1 hq v hv
  have hvlt : ∀ b, v.ownBlock = some b → b < w1.heap.size := fun b hb => ((h.rows hq v hv).lt b hb).2
  have hElt : ∀ b, E.ownBlock = some b → b < w1.heap.size := fun b hb => (h.ents.lt b hb).2
  have h9R : v9.ownBlock ≠ some R := fun e => by
    rcases hat9 with h1 | h1
    · rw [h1] at e; exact (hEf R e).1 rfl
    · rw [h1, hsz1] at e; injection e with e; omega
  have h9M : v9.ownBlock ≠ some mb := fun e => by
    rcases hat9 with h1 | h1
    · rw [h1] at e; exact (hEf mb e).2.1 rfl
    · rw [h1, hsz1] at e; injection e with e; omega
  have h9v : ∀ b, v9.ownBlock = some b → v.ownBlock ≠ some b := fun b e ev => by
    rcases hat9 with h1 | h1
    · rw [h1] at e; exact (hEf b e).2.2.1 hq v hv ev
    · rw [h1, hsz1] at e; injection e with e; have := hvlt b ev; omega
  have h13M : v13.ownBlock ≠ some mb := fun e => by
    rcases hat13 with h1 | h1
    · rw [h1] at e; exact hvM e
    · rw [h1, hszy] at e; injection e with e; omega
  -- a block that is none of the four
  have hstay : ∀ b, b < w1.heap.size → E.ownBlock ≠ some b → b ≠ R → v.ownBlock ≠ some b → b ≠ mb → (ChangeMaps.setBlock w13 mb (.map es' ck)).heap[b]? = w1.heap[b]? := fun b hb h1 h2 h3 h4 => by
    have hb9 : b < w9.heap.size := by omega
    have hby : b < (w9.setCell ⟨R, 1, none⟩ v9).heap.size := Nat.lt_of_lt_of_le hb9 KB.size
    have hb13 : b < w13.heap.size := Nat.lt_of_lt_of_le hby KC.size
    exact (KD.block b hb13 h4).trans ((KC.block b hby h3).trans ((KB.block b hb9 h2).trans (KA.block b hb h1)))
  have hnot : ∀ {b : Nat} {cs : Array Value}, BxI w1 b 100 cs → E.ownBlock ≠ some b ∧ b ≠ R ∧ (∀ q u, IsAt es.toList q u → u.ownBlock ≠ some b) ∧ b ≠ mb := fun {b cs} hbx => by
    unfold BxI at hbx
    refine ⟨fun e => ?_, fun e => ?_, fun q u hu e => ?_, fun e => ?_⟩
    · obtain ⟨cur, hc⟩ := own_blk h.ents e
      rw [hbx] at hc; simp at hc
    · have hc := h.box; unfold BxI at hc; rw [← e, hbx] at hc; simp at hc
    · obtain ⟨cur, hc⟩ := own_blk (h.rows q u hu) e
      rw [hbx] at hc; simp at hc
    · rw [← e, hbx] at hmb; simp at hmb
  have hbx : ∀ {b : Nat} {cs : Array Value}, BxI w1 b 100 cs → BxI (ChangeMaps.setBlock w13 mb (.map es' ck)) b 100 cs := fun {b cs} hb => by
    obtain ⟨h1, h2, h3, h4⟩ := hnot hb
    exact (hstay b hb.lt h1 h2 (h3 hq v hv) h4).trans hb
  have hrow : ∀ q u, q ≠ hq → IsAt es.toList q u → (ChangeMaps.setBlock w13 mb (.map es' ck)).ownsRow base 3 1 u (idsH F n S q).length (ic (idsH F n S q)) := fun q u hne hu => by
    have h0 := h.rows q u hu
    have h1 := own_kb1 h0 KA (fun b hb e => (hEf b e).2.2.1 q u hu hb)
    have h2 := own_kb1 h1 KB (fun b hb e => h.farR.2.1 q u hu (e ▸ hb))
    have h3 := own_kb1 h2 KC (fun b hb e => by
      rcases h.apt hq q v u (Ne.symm hne) hv hu with h4 | h4
      · rw [h4] at e; cases e
      · exact h4 (e.trans hb.symm))
    exact own_kb1 h3 KD (fun b hb e => h.farM.1 q u hu (e ▸ hb))
  have hbox9 : BxI w9 R 87 #[.pointer (some ⟨p, 0, none⟩), E, .map (some mb)] := h.box.kb KA (fun e => (hEf R e).1 rfl)
  refine ⟨?_, fun i => if i = S.length then g else wb i, { ge := h.ge, box := ?_, pk := ?_, fok := h.fok, len := by rw [List.length_append, List.length_append, h.len]; rfl, small := by rw [List.length_append]; simp; omega, ents := ?_, wds := ?_, map := ⟨ck, ?_⟩, tab := htok, rows := ?_, apt := ?_, ok := ?_, once := ?_ }, ?_, ?_, by simp⟩
  · have k1 := KA.mono (bad' := RegOwn R mb E es) (fun b _ e => .inr (.inr (.inl e)))
    have k2 := KB.mono (bad' := RegOwn R mb E es) (fun b _ e => .inl e)
    have k3 := KC.mono (bad' := RegOwn R mb E es) (fun b _ e => .inr (.inr (.inr ⟨hq, v, hv, e⟩)))
    have k4 := KD.mono (bad' := RegOwn R mb E es) (fun b _ e => .inr (.inl e))
    exact ((k1.trans k2).trans k3).trans k4
  · have h1 := hbox9.set 1 v9
    have h2 := h1.kb KC hvR
    exact h2.kb KD hRm
  · refine h.pk.move ⟨?_, fun b hb hn => ?_, fun b _ hb => hb⟩
    · exact Nat.le_trans (by omega) KD.size
    · refine hstay b hb (fun e => hn (h.ents.lt b e).1) (fun e => hn (e ▸ h.ge.1)) (fun e => hn ((h.rows hq v hv).lt b e).1) (fun e => hn (e ▸ h.ge.2))
  · have e1 : entC n (fun i => if i = S.length then g else wb i) (L ++ [(-1, -1, 0)]) 0 = entC n wb L 0 ++ [.slice (some ⟨g, 0, none⟩) n n, .int .i64 (-1), .int .i64 (-1), .int .i64 0] := by
      rw [entC_app, Nat.zero_add, h.len, if_pos rfl]
      congr 1
      exact entC_congr n _ _ L 0 (fun k _ hk => if_neg (by have := h.len; omega))
    rw [List.length_append, e1]
    have h1 := own_kb1 hown9 KB (fun b hb e => h9R (e ▸ hb))
    have h2 := own_kb1 h1 KC (fun b hb e => h9v b hb e)
    exact own_kb1 h2 KD (fun b hb e => h9M (e ▸ hb))
  · intro i hi
    rw [List.length_append] at hi
    by_cases e : i = S.length
    · subst e
      rw [stI_new]
      simp only [if_true]
      exact hbx hg
    · have hi2 : i < S.length := by simp at hi; omega
      rw [stI_app hi2]
      simp only [e, if_false]
      exact hbx (h.wds i hi2)
  · exact set_blk (by omega) _
  · intro q u hu
    by_cases e : q = hq
    · subst e
      rw [IsAt.uni htok hu hia, ids_app, if_pos hhq.symm, List.length_append, ← ic_push]
      exact own_kb1 hown13 KD (fun b hb e => h13M (e ▸ hb))
    · rw [ids_app, if_neg (fun e2 => e (e2.symm.trans hhq.symm)), List.append_nil]
      exact hrow q u e ((hio q e u).1 hu)
  · have key : ∀ q u, q ≠ hq → IsAt es.toList q u → Apt v13 u := fun q u hne hu => by
      have h1 := h.apt hq q v u (Ne.symm hne) hv hu
      have h0 := h.rows q u hu
      refine (Apt.symm ?_)
      rcases hat13 with h2 | h2
      · have h3 := Apt.symm h1
        unfold Apt at *
        rw [h2]
        exact h3
      · unfold Apt
        rw [h2]
        cases e : u.ownBlock with
        | none => exact .inl rfl
        | some k => have := (h0.lt k e).2; rw [hszy]; exact .inr (fun hh => by injection hh with hh; omega)
    intro q q' u u' hne hu hu'
    by_cases e : q = hq
    · subst e
      rw [IsAt.uni htok hu hia]
      exact key q' u' (Ne.symm hne) ((hio q' (Ne.symm hne) u').1 hu')
    · by_cases e' : q' = hq
      · subst e'
        rw [IsAt.uni htok hu' hia]
        exact (key q u e ((hio q e u).1 hu)).symm
      · exact h.apt q q' u u' hne ((hio q e u).1 hu) ((hio q' e' u').1 hu')
  · intro i hi
    rw [List.length_append] at hi
    by_cases e : i = S.length
    · subst e; rw [stI_new]; exact hok
    · have hi2 : i < S.length := by simp at hi; omega
      rw [stI_app hi2]; exact h.ok i hi2
  · intro i j hi hj e
    rw [List.length_append] at hi hj
    simp only [List.length_singleton] at hi hj
    by_cases e1 : i = S.length
    · by_cases e2 : j = S.length
      · omega
      · subst e1
        rw [stI_new, stI_app (by omega)] at e
        exact absurd e.symm (hno j (by omega))
    · by_cases e2 : j = S.length
      · subst e2
        rw [stI_new, stI_app (by omega)] at e
        exact absurd e (hno i (by omega))
      · rw [stI_app (by omega), stI_app (by omega)] at e
        exact h.once i j (by omega) (by omega) e
  · intro b hb hr
    rcases hr with rfl | rfl | hr | ⟨q, u, hu, hub⟩
    · exact .inl rfl
    · exact .inr (.inl rfl)
    · rcases hat9 with h1 | h1
      · exact .inr (.inr (.inl (h1 ▸ hr)))
      · rw [h1, hsz1] at hr; injection hr with hr; omega
    · by_cases e : q = hq
      · subst e
        rw [IsAt.uni htok hu hia] at hub
        rcases hat13 with h1 | h1
        · exact .inr (.inr (.inr ⟨q, v, hv, h1 ▸ hub⟩))
        · rw [h1, hszy] at hub; injection hub with hub; omega
      · exact .inr (.inr (.inr ⟨q, u, (hio q e u).1 hu, hub⟩))
  · intro i hi
    simp only [show i ≠ S.length by omega, if_false]
end Go.Proofs.YtpobnjbpglaohaaGreat

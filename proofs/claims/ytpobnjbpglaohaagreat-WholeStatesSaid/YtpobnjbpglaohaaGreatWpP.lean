/- registry: New, SetLink, walked. -/
import Derived.Test.YtpobnjbpglaohaaGreatWpO
namespace Go.Proofs.YtpobnjbpglaohaaGreat
set_option linter.unusedSimpArgs false
set_option linter.unusedVariables false
open Go Go.RowKit Go.Maps
set_option linter.unusedVariables false

theorem PkAt.base {w w' : World} {bad : Nat → Prop} {p n : Nat} {F : List Fld} (h : PkAt w bad p F n) (k : Below w.heap.size w w') {B : Nat} (hB : w.heap.size ≤ B) : PkAt w' (fun b => B ≤ b) p F n :=
  h.move ⟨k.size, fun b hb _ => k.block b hb, fun b hb h1 => by omega⟩
set_option maxHeartbeats 2000000 in
theorem rnew_any (l : List Int) (A : Option Addr) (c : Nat) (w : World) (hl : IntsAt w w.heap.size A l) (hn : ∀ k, k < l.length → 1 ≤ nth l k ∧ nth l k ≤ 64) (hlen : l.length ≤ 64) :
    Calls Tryz.prog 8 #[.slice A l.length c] w fun e w' => (∃ R p mb B, e = .returned (.tuple #[.pointer (some ⟨R, 0, none⟩), .nilIface]) ∧ w.heap.size ≤ B ∧ RegC w' B R p mb (.slice none 0 0) #[] (mkF (natL l) 1 0).1 (mkF (natL l) 1 0).2 [] [] (fun _ => 0)) ∧ Below w.heap.size w w' := by
  have KP := Lib.hid (fun W (k : Below w.heap.size w W) => pnew_any l A c W (hl.keep (fun q hq => k.cell hq) k.size) hn hlen)
  have HF := Lib.hid (fok_mk hn hlen)
  clear hl hn
  go_enter Tryz.func8, Tryz.ntmps8
  go_wp2_with fail
  refine (KP.out _ (by repeat (first | exact Below.refl _ _ | refine below_dN ?_ _ | refine Below.drew ?_ | refine Below.alloc ?_ (by first | omega | (simp; done) | (simp; omega)) _ | refine Below.setCell ?_ (by first | omega | (simp; done) | (simp; omega)) _ | refine below_step (by assumption) (by first | omega | (simp; done) | (simp; omega)) ?_))).mono ?_
  rintro e w1 ⟨⟨p, rfl, hp⟩, hb1⟩
  have HB1 := Lib.hid (show Below w.heap.size w w1 from below_step hb1 (show w.heap.size ≤ _ by simp) (show Below w.heap.size w _ by repeat (first | exact Below.refl _ _ | refine below_dN ?_ _ | refine Below.drew ?_ | refine Below.alloc ?_ (by first | omega | (simp; done) | (simp; omega)) _ | refine Below.setCell ?_ (by first | omega | (simp; done) | (simp; omega)) _ | refine below_step (by assumption) (by first | omega | (simp; done) | (simp; omega)) ?_)))
  have HP := Lib.hid hp
  have hz1 := HB1.out.size
  clear hp hb1
  have hmm : (Instr.makeMap 84 none).run Tryz.prog w1 = .ok (.map (some w1.heap.size)) (w1.alloc (.map #[] 0)) := rfl
  go_wp2
  refine bodyPost_ret (v := .tuple #[.pointer (some ⟨w1.heap.size + 1, 0, none⟩), .nilIface]) (by simp [results, Tryz.results8, go_sem, ↓IntWalk.iteOmega, *]) rfl ⟨⟨w1.heap.size + 1, p, w1.heap.size, w1.heap.size, rfl, hz1, ?_⟩, HB1.out.trans (Below.mono (by repeat (first | exact Below.refl _ _ | refine below_dN ?_ _ | refine Below.drew ?_ | refine Below.alloc ?_ (by first | omega | (simp; done) | (simp; omega)) _ | refine Below.setCell ?_ (by first | omega | (simp; done) | (simp; omega)) _ | refine below_step (by assumption) (by first | omega | (simp; done) | (simp; omega)) ?_)) hz1)⟩
  refine { ge := ⟨by omega, Nat.le_refl _⟩, box := ?_, pk := HP.out.base (by repeat (first | exact Below.refl _ _ | refine below_dN ?_ _ | refine Below.drew ?_ | refine Below.alloc ?_ (by first | omega | (simp; done) | (simp; omega)) _ | refine Below.setCell ?_ (by first | omega | (simp; done) | (simp; omega)) _ | refine below_step (by assumption) (by first | omega | (simp; done) | (simp; omega)) ?_)) (Nat.le_refl _), fok := HF.out, len := rfl, small := by simp, ents := World.ownsRow_nil _ _ _ _, wds := fun i hi => absurd hi (by simp), map := ⟨0, ?_⟩, tab := ⟨fun x hx => by simp at hx, by simp⟩, rows := fun h v hv => ?_, apt := fun h h' v v' _ hv _ => ?_, ok := fun i hi => absurd hi (by simp), once := fun i j hi => absurd hi (by simp) }
  · exact BxI.new2 w1 _ _ _
  · have h1 := heap_alloc_new w1 (.map #[] 0)
    exact ((kb_alloc (w1.alloc (.map #[] 0)) _ (fun _ => False)).block w1.heap.size (by simp) (fun h => h)).trans h1
  · rcases hv with ⟨x, hx, _⟩ | ⟨_, rfl⟩
    · simp at hx
    · exact World.ownsRow_nil _ _ _ _
  · rcases hv with ⟨x, hx, _⟩ | ⟨_, rfl⟩
    · simp at hx
    · exact .inl rfl
/-- The entries with another link. -/
theorem entC_set (n : Nat) (wb : Nat → Nat) (x : Int × Int × Int) : ∀ (L : List (Int × Int × Int)) (k i : Nat), k < L.length → entC n wb (L.set k x) i = (((entC n wb L i).set (k * 4 + 1) (.int .i64 x.1)).set (k * 4 + 2) (.int .i64 x.2.1)).set (k * 4 + 3) (.int .i64 x.2.2)
  | (a, b, c) :: r, 0, i, _ => by obtain ⟨x1, x2, x3⟩ := x; rfl
  | (a, b, c) :: r, k + 1, i, h => by
    rw [List.set_cons_succ, entC, entC_set n wb x r k (i + 1) (by simpa using h), entC]
    have e : ∀ (j : Nat) (ys : List Value) (v : Value), ([Value.slice (some ⟨wb i, 0, none⟩) n n, .int .i64 a, .int .i64 b, .int .i64 c] ++ ys).set ((k + 1) * 4 + j) v = [.slice (some ⟨wb i, 0, none⟩) n n, .int .i64 a, .int .i64 b, .int .i64 c] ++ ys.set (k * 4 + j) v := fun j ys v => by
      rw [List.set_append_right _ _ (by simp; omega)]
      congr 2
      simp
      omega
    rw [e, e, e]
theorem setlink_reg {w : World} {base R p mb : Nat} {g c : Nat} {es : Array MapEntry} {F : List Fld} {n : Nat} {S : List (List Int)} {L : List (Int × Int × Int)} {wb : Nat → Nat} (h : RegC w base R p mb (.slice (some ⟨g, 0, none⟩) S.length c) es F n S L wb) {i : Nat} (hi : i < S.length) (x : Int × Int × Int) :
    RegC (w.setCells g (i * 4 + 1) [.int .i64 x.1, .int .i64 x.2.1, .int .i64 x.2.2]) base R p mb (.slice (some ⟨g, 0, none⟩) S.length c) es F n S (L.set i x) wb ∧ Kb (fun b => b = g) w (w.setCells g (i * 4 + 1) [.int .i64 x.1, .int .i64 x.2.1, .int .i64 x.2.2]) := by
  obtain ⟨f1, f2, f3, f4⟩ := h.farE (b := g) rfl
  have K : Kb (fun b => b = g) w (w.setCells g (i * 4 + 1) [.int .i64 x.1, .int .i64 x.2.1, .int .i64 x.2.2]) :=
    (((Kb.refl (fun b => b = g) w).set (p := ⟨g, i * 4 + 1, none⟩) (.inl rfl) _).set (p := ⟨g, i * 4 + 1 + 1, none⟩) (.inl rfl) _).set (p := ⟨g, i * 4 + 1 + 1 + 1, none⟩) (.inl rfl) _
  obtain ⟨clock, hm⟩ := h.map
  refine ⟨{ h with box := h.box.kb K (fun e => f1 e.symm), pk := ?_, len := by rw [List.length_set]; exact h.len, ents := ?_, wds := fun j hj => (h.wds j hj).kb K (fun e => f4 j hj e.symm), map := ⟨clock, ?_⟩, rows := fun q v hq => own_kb1 (h.rows q v hq) K (fun b hb e => f3 q v hq (hb.trans (congrArg some e))) }, K⟩
  · have hg := (h.ents.lt g rfl).1
    exact h.pk.move ⟨K.size, fun b h1 h2 => K.block b h1 (fun e => h2 (e ▸ hg)), fun b _ h => h⟩
  · have e1 := entC_set n wb x L i 0 (by rw [h.len]; exact hi)
    rw [e1]
    exact own_setAt2 (own_setAt2 (own_setAt2 h.ents _) _) _
  · exact (K.block mb (Array.getElem?_eq_some_iff.1 hm).1 (fun e => f2 e.symm)).trans hm
set_option maxRecDepth 20000 in
set_option maxHeartbeats 2000000 in
theorem setlink_any {w : World} {base R p mb : Nat} {E : Value} {es : Array MapEntry} {F : List Fld} {n : Nat} {S : List (List Int)} {L : List (Int × Int × Int)} {wb : Nat → Nat} (h : RegC w base R p mb E es F n S L wb) (i q : Nat) (a b : Int) (hi : i < S.length) (hq : q < S.length) :
    Calls Tryz.prog 19 #[.pointer (some ⟨R, 0, none⟩), .int .i64 i, .int .i64 q, .int .i64 a, .int .i64 b] w fun e w' => e = .returned .nilIface ∧ Kb (RegOwn R mb E es) w w' ∧ RegC w' base R p mb E es F n S (L.set i ((q : Int), a, b)) wb := by
  obtain ⟨g, c0, hE, hg1, hg2⟩ : ∃ g, ∃ c, E = .slice (some ⟨g, 0, none⟩) S.length c ∧ base ≤ g ∧ g < w.heap.size := by
    obtain ⟨A, c, rfl⟩ := h.shapeE
    obtain ⟨g, rfl, h1, h2, _⟩ := own_frozen' h.ents (by omega)
    exact ⟨g, c, rfl, h1, h2⟩
  subst hE
  have HR := Lib.hid h
  have KI := Lib.hid (fun W (k : Below w.heap.size w W) (i : Nat) => has_any (h.keep (Kb.of_below (bad := fun _ => False) k) (fun _ hc => hc.elim) (fun _ hc => hc.elim) (fun _ hc => hc.elim)) i)
  clear h
  go_enter Tryz.func19, Tryz.ntmps19
  go_wp2_with fail
  refine (KI.out _ (by repeat (first | exact Below.refl _ _ | refine below_dN ?_ _ | refine Below.drew ?_ | refine Below.alloc ?_ (by first | omega | (simp; done) | (simp; omega)) _ | refine Below.setCell ?_ (by first | omega | (simp; done) | (simp; omega)) _ | refine below_step (by assumption) (by first | omega | (simp; done) | (simp; omega)) ?_)) i).mono ?_
  rintro e w1 ⟨rfl, hb1⟩
  rw [decide_eq_true hi]
  have HB1 := Lib.hid (show Below w.heap.size w w1 from below_step hb1 (show w.heap.size ≤ _ by simp) (show Below w.heap.size w _ by repeat (first | exact Below.refl _ _ | refine below_dN ?_ _ | refine Below.drew ?_ | refine Below.alloc ?_ (by first | omega | (simp; done) | (simp; omega)) _ | refine Below.setCell ?_ (by first | omega | (simp; done) | (simp; omega)) _ | refine below_step (by assumption) (by first | omega | (simp; done) | (simp; omega)) ?_)))
  go_wp2_with fail
  refine (KI.out _ (HB1.out.trans (Below.mono (by repeat (first | exact Below.refl _ _ | refine below_dN ?_ _ | refine Below.drew ?_ | refine Below.alloc ?_ (by first | omega | (simp; done) | (simp; omega)) _ | refine Below.setCell ?_ (by first | omega | (simp; done) | (simp; omega)) _ | refine below_step (by assumption) (by first | omega | (simp; done) | (simp; omega)) ?_)) HB1.out.size)) q).mono ?_
  rintro e w2 ⟨rfl, hb2⟩
  rw [decide_eq_true hq]
  have HB2 := Lib.hid (show Below w.heap.size w w2 from HB1.out.trans (Below.mono (below_step hb2 (show w1.heap.size ≤ _ by simp) (show Below w1.heap.size w1 _ by repeat (first | exact Below.refl _ _ | refine below_dN ?_ _ | refine Below.drew ?_ | refine Below.alloc ?_ (by first | omega | (simp; done) | (simp; omega)) _ | refine Below.setCell ?_ (by first | omega | (simp; done) | (simp; omega)) _ | refine below_step (by assumption) (by first | omega | (simp; done) | (simp; omega)) ?_))) HB1.out.size))
  have HR2 := Lib.hid (HR.out.keep (Kb.of_below (bad := fun _ => False) HB2.out) (fun _ hc => hc.elim) (fun _ hc => hc.elim) (fun _ hc => hc.elim))
  have c1 := HR2.out.box.cell 1 _ rfl
  clear hb1 hb2
  go_wp2_with (refine wpList_stores (by rfl) 96 _ _ (by rfl) g (i * 4 + 1) [.int .i64 q, .int .i64 a, .int .i64 b] (by rfl) (by rfl) (there_own HR2.out.ents (by simp; omega)) (by kernel_rfl) (by intro v hv; simp at hv; rcases hv with rfl | rfl | rfl <;> rfl) ?_; intro wy HWY)
  have HK := setlink_reg HR2.out hi ((q : Int), a, b)
  rw [← HWY.out] at HK
  refine bodyPost_ret (v := .nilIface) (by simp [results, Tryz.results19, go_sem, ↓IntWalk.iteOmega, *]) rfl ⟨rfl, (Kb.of_below HB2.out).trans (HK.2.mono (fun b _ e => .inr (.inr (.inl (by subst e; rfl))))), HK.1⟩
end Go.Proofs.YtpobnjbpglaohaaGreat

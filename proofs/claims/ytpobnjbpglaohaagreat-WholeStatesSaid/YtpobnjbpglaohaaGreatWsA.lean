/- pqueue: entries in memory; before, up, down, walked. -/
import Derived.Test.YtpobnjbpglaohaaGreatWgA
import Derived.Test.YtpobnjbpglaohaaGreatWrC
import Derived.Deep.CutBlock
import Derived.Deep.DeepCutAuto
namespace Go.Proofs.YtpobnjbpglaohaaGreat
set_option linter.unusedSimpArgs false
set_option linter.unusedVariables false
open Go Go.RowKit
set_option linter.unusedVariables false

structure QE where
  key : Int
  tie : Int
  item : Int
  num : Int
def QE.c (e : QE) : List Value := [.int .i64 e.key, .int .i64 e.tie, .int .i64 e.item, .int .i64 e.num]
def qeC (es : List QE) : List Value := es.flatMap QE.c
theorem qeC_app (a b : List QE) : qeC (a ++ b) = qeC a ++ qeC b := by unfold qeC; rw [List.flatMap_append]
theorem qeC_cons (e : QE) (r : List QE) : qeC (e :: r) = [.int .i64 e.key, .int .i64 e.tie, .int .i64 e.item, .int .i64 e.num] ++ qeC r := rfl
theorem qeC_len : ∀ es : List QE, (qeC es).length = es.length * 4
  | [] => rfl
  | e :: r => by rw [qeC_cons, List.length_append, qeC_len r]; simp; omega
def qe (es : List QE) (i : Nat) : QE := es.getD i ⟨0, 0, 0, 0⟩
theorem qe_mem {es : List QE} {i : Nat} (h : i < es.length) : qe es i ∈ es := by unfold qe; simp [List.getD, h]
theorem qeC_get : ∀ (es : List QE) (i : Nat), i < es.length → (qeC es)[i * 4]? = some (.int .i64 (qe es i).key) ∧ (qeC es)[i * 4 + 1]? = some (.int .i64 (qe es i).tie) ∧ (qeC es)[i * 4 + 2]? = some (.int .i64 (qe es i).item) ∧ (qeC es)[i * 4 + 3]? = some (.int .i64 (qe es i).num)
  | e :: r, 0, _ => ⟨rfl, rfl, rfl, rfl⟩
  | e :: r, i + 1, h => by
    obtain ⟨h0, h1, h2, h3⟩ := qeC_get r i (by simpa using h)
    have g : ∀ j, (qeC (e :: r))[(i + 1) * 4 + j]? = (qeC r)[i * 4 + j]? := fun j => by
      rw [qeC_cons, List.getElem?_append_right (by simp; omega)]
      congr 1
      simp
      omega
    exact ⟨(g 0).trans h0, (g 1).trans h1, (g 2).trans h2, (g 3).trans h3⟩
theorem qeC_set (x : QE) : ∀ (es : List QE) (i : Nat), i < es.length → qeC (es.set i x) = ((((qeC es).set (i * 4) (.int .i64 x.key)).set (i * 4 + 1) (.int .i64 x.tie)).set (i * 4 + 2) (.int .i64 x.item)).set (i * 4 + 3) (.int .i64 x.num)
  | e :: r, 0, _ => rfl
  | e :: r, i + 1, h => by
    rw [List.set_cons_succ, qeC_cons, qeC_set x r i (by simpa using h), qeC_cons]
    have g : ∀ (j : Nat) (ys : List Value) (v : Value), ([Value.int .i64 e.key, .int .i64 e.tie, .int .i64 e.item, .int .i64 e.num] ++ ys).set ((i + 1) * 4 + j) v = [.int .i64 e.key, .int .i64 e.tie, .int .i64 e.item, .int .i64 e.num] ++ ys.set (i * 4 + j) v := fun j ys v => by
      rw [List.set_append_right _ _ (by simp; omega)]
      congr 2
      simp
      omega
    have g0 := fun ys v => g 0 ys v
    simp only [Nat.add_zero] at g0
    rw [g0, g, g, g]
/-- A queue in memory. -/
structure QuAt (w : World) (base Q N : Nat) (HA : Option Addr) (HC : Nat) (nx : Int) (es : List QE) : Prop where
  box : BxI w Q 159 #[.slice HA es.length HC, .int .i64 nx]
  own : w.ownsRow base 161 4 (.slice HA es.length HC) es.length (qeC es)
  ge : base ≤ Q
  lt : ∀ e ∈ es, 0 ≤ e.item ∧ e.item < (N : Int)
  few : es.length ≤ 65536
theorem QuAt.cap {w : World} {base Q N HC : Nat} {HA : Option Addr} {nx : Int} {es : List QE} (h : QuAt w base Q N HA HC nx es) : es.length ≤ HC := by
  rcases h.own.2 with ⟨h1, h2⟩ | ⟨g, cap, cur, h1, _, _, h2, _⟩
  · omega
  · injection h1 with _ _ h3; omega
theorem QuAt.up {w w' : World} {base Q N HC : Nat} {HA : Option Addr} {nx : Int} {es : List QE} (h : QuAt w base Q N HA HC nx es) (k : Below w.heap.size w w') : QuAt w' base Q N HA HC nx es :=
  { h with box := h.box.up k, own := own_kb1 h.own (Kb.of_below (bad := fun _ => False) k) (fun _ _ h => h) }
theorem QuAt.qne {w : World} {base Q N HC g : Nat} {HA : Option Addr} {nx : Int} {es : List QE} (h : QuAt w base Q N HA HC nx es) (hg : (Value.slice HA es.length HC).ownBlock = some g) : Q ≠ g := fun e => own_ne_box h.own h.box (by decide) g hg e.symm
/-- An entry stored. -/
theorem QuAt.put {w : World} {base Q N HC g : Nat} {nx : Int} {es : List QE} (h : QuAt w base Q N (some ⟨g, 0, none⟩) HC nx es) {i : Nat} (hi : i < es.length) (x : QE) (hx : 0 ≤ x.item ∧ x.item < (N : Int)) :
    QuAt (w.setCells g (i * 4) [.int .i64 x.key, .int .i64 x.tie, .int .i64 x.item, .int .i64 x.num]) base Q N (some ⟨g, 0, none⟩) HC nx (es.set i x) ∧ Below base w (w.setCells g (i * 4) [.int .i64 x.key, .int .i64 x.tie, .int .i64 x.item, .int .i64 x.num]) := by
  have hg := (h.own.lt g rfl)
  have K := kb_sets (X := g) [.int .i64 x.key, .int .i64 x.tie, .int .i64 x.item, .int .i64 x.num] (i * 4) w
  refine ⟨{ box := by rw [List.length_set]; exact h.box.kb K (h.qne rfl), own := ?_, ge := h.ge, lt := fun e he => ?_, few := by rw [List.length_set]; exact h.few }, below_sets _ _ _ (Below.refl _ _) hg.1⟩
  · rw [List.length_set, qeC_set x es i hi]
    exact own_setAt2 (own_setAt2 (own_setAt2 (own_setAt2 h.own _) _) _) _
  · rcases List.mem_or_eq_of_mem_set he with h1 | h1
    · exact h.lt e h1
    · subst h1; exact hx
theorem QuAt.adr {w : World} {base Q N HC : Nat} {HA : Option Addr} {nx : Int} {es : List QE} (h : QuAt w base Q N HA HC nx es) (h0 : 0 < es.length) : ∃ g, HA = some ⟨g, 0, none⟩ ∧ base ≤ g ∧ g < w.heap.size := by
  obtain ⟨g, e, h1, h2, _⟩ := own_frozen' h.own h0
  exact ⟨g, e, h1, h2⟩
/-- What the walk reads of a queue. -/
theorem QuAt.reads {w : World} {base Q N HC g : Nat} {nx : Int} {es : List QE} (h : QuAt w base Q N (some ⟨g, 0, none⟩) HC nx es) {i : Nat} (hi : i < es.length) {w' : World} (k : Below w.heap.size w w') : w'.cell? ⟨g, i * 4, none⟩ = some (.int .i64 (qe es i).key) ∧ w'.cell? ⟨g, i * 4 + 1, none⟩ = some (.int .i64 (qe es i).tie) ∧ w'.cell? ⟨g, i * 4 + 2, none⟩ = some (.int .i64 (qe es i).item) ∧ w'.cell? ⟨g, i * 4 + 3, none⟩ = some (.int .i64 (qe es i).num) := by
  obtain ⟨a, b, c, d⟩ := qeC_get es i hi
  have h' := (h.up k).own
  exact ⟨own_cell h' a, own_cell h' b, own_cell h' c, own_cell h' d⟩

set_option maxHeartbeats 4000000 in
theorem before_any (a b : QE) (w : World) : Calls Tryz.prog 78 #[.agg #[.int .i64 a.key, .int .i64 a.tie, .int .i64 a.item, .int .i64 a.num], .agg #[.int .i64 b.key, .int .i64 b.tie, .int .i64 b.item, .int .i64 b.num]] w fun e w' => (∃ c, e = .returned (.bool c)) ∧ Below w.heap.size w w' := by
  obtain ⟨a0, a1, a2, a3⟩ := a
  obtain ⟨b0, b1, b2, b3⟩ := b
  dsimp only
  go_enter Tryz.func78, Tryz.ntmps78
  by_cases h0 : a0 = b0
  · by_cases h1 : a1 = b1
    · go_wp2
      refine bodyPost_ret (v := .bool (decide (a3 < b3))) (by simp [results, Tryz.results78, go_sem, ↓IntWalk.iteOmega, *]) rfl ⟨⟨_, rfl⟩, by repeat (first | exact Below.refl _ _ | refine below_dN ?_ _ | refine Below.drew ?_ | refine Below.alloc ?_ (by first | omega | (simp; done) | (simp; omega)) _ | refine Below.setCell ?_ (by first | omega | (simp; done) | (simp; omega)) _ | refine below_step (by assumption) (by first | omega | (simp; done) | (simp; omega)) ?_)⟩
    · go_wp2
      refine bodyPost_ret (v := .bool (decide (a1 < b1))) (by simp [results, Tryz.results78, go_sem, ↓IntWalk.iteOmega, *]) rfl ⟨⟨_, rfl⟩, by repeat (first | exact Below.refl _ _ | refine below_dN ?_ _ | refine Below.drew ?_ | refine Below.alloc ?_ (by first | omega | (simp; done) | (simp; omega)) _ | refine Below.setCell ?_ (by first | omega | (simp; done) | (simp; omega)) _ | refine below_step (by assumption) (by first | omega | (simp; done) | (simp; omega)) ?_)⟩
  · go_wp2
    refine bodyPost_ret (v := .bool (decide (a0 < b0))) (by simp [results, Tryz.results78, go_sem, ↓IntWalk.iteOmega, *]) rfl ⟨⟨_, rfl⟩, by repeat (first | exact Below.refl _ _ | refine below_dN ?_ _ | refine Below.drew ?_ | refine Below.alloc ?_ (by first | omega | (simp; done) | (simp; omega)) _ | refine Below.setCell ?_ (by first | omega | (simp; done) | (simp; omega)) _ | refine below_step (by assumption) (by first | omega | (simp; done) | (simp; omega)) ?_)⟩

set_option maxRecDepth 20000 in
set_option maxHeartbeats 8000000 in
theorem qup_any {w : World} {base Q N HC : Nat} {HA : Option Addr} {nx : Int} {es : List QE} (h : QuAt w base Q N HA HC nx es) (hb : base ≤ w.heap.size) (i : Nat) (hi : i < es.length) :
    Calls Tryz.prog 72 #[.pointer (some ⟨Q, 0, none⟩), .int .i64 i] w fun e w' => (e = .returned (.tuple #[]) ∧ ∃ es', es'.length = es.length ∧ QuAt w' base Q N HA HC nx es') ∧ Below base w w' := by
  obtain ⟨g, rfl, hg1, hg2⟩ := h.adr (by omega)
  have hfew := h.few
  obtain ⟨n, hn⟩ : ∃ n, n = es.length := ⟨_, rfl⟩
  have HQ := Lib.hid h
  have HNN := Lib.hid hn
  rw [← hn] at hi hfew
  rw [← hn]
  clear h hn
  go_enter Tryz.func72, Tryz.ntmps72
  go_wp2_with fail
  go_loopw [1] (fun v1 wr => ∃ (i : Nat) (es' : List QE), v1 = .int .i64 i ∧ i < n ∧ Hid (es'.length = n) ∧ Hid (QuAt wr base Q N (some ⟨g, 0, none⟩) HC nx es') ∧ Hid (Below base w wr)) (fun v _ => (RowKit.intOf v).toNat)
  case atStart => exact ⟨i, es, rfl, hi, Lib.hid HNN.out.symm, HQ, Lib.hid (Below.refl _ _)⟩
  case round =>
    obtain ⟨i, es', rfl, hi, HLN, HQR, HE⟩ := hrel
    have hzr := HE.out.size
    by_cases h0 : 0 < i
    · obtain ⟨wt, rfl⟩ : ∃ wt : World, wt = wr := ⟨_, rfl⟩
      obtain ⟨p, hp⟩ : ∃ p, p = (i - 1) / 2 := ⟨_, rfl⟩
      have hpi : p < i := by omega
      have hpr : ((i : Int) - 1) / 2 = (p : Int) := by omega
      clear hp
      obtain ⟨x, hx⟩ : ∃ x, x = qe es' i := ⟨_, rfl⟩
      obtain ⟨y, hy⟩ : ∃ y, y = qe es' p := ⟨_, rfl⟩
      have hil : i < es'.length := by rw [HLN.out]; exact hi
      have hpl : p < es'.length := by rw [HLN.out]; omega
      have HIL := Lib.hid hil
      have HPL := Lib.hid hpl
      have HXL := Lib.hid (show 0 ≤ x.item ∧ x.item < (N : Int) by rw [hx]; exact HQR.out.lt _ (qe_mem hil))
      have HYL := Lib.hid (show 0 ≤ y.item ∧ y.item < (N : Int) by rw [hy]; exact HQR.out.lt _ (qe_mem hpl))
      have HS := Lib.hid (show ∀ w' : World, Below wt.heap.size wt w' → w'.cell? ⟨Q, 0, none⟩ = some (.slice (some ⟨g, 0, none⟩) n HC) ∧ (w'.cell? ⟨g, i * 4, none⟩ = some (.int .i64 x.key) ∧ w'.cell? ⟨g, i * 4 + 1, none⟩ = some (.int .i64 x.tie) ∧ w'.cell? ⟨g, i * 4 + 2, none⟩ = some (.int .i64 x.item) ∧ w'.cell? ⟨g, i * 4 + 3, none⟩ = some (.int .i64 x.num)) ∧ (w'.cell? ⟨g, p * 4, none⟩ = some (.int .i64 y.key) ∧ w'.cell? ⟨g, p * 4 + 1, none⟩ = some (.int .i64 y.tie) ∧ w'.cell? ⟨g, p * 4 + 2, none⟩ = some (.int .i64 y.item) ∧ w'.cell? ⟨g, p * 4 + 3, none⟩ = some (.int .i64 y.num)) from fun w' hb => ⟨by have := (HQR.out.box.up hb).cell 0 _ rfl; rw [HLN.out] at this; exact this, by rw [hx]; exact HQR.out.reads hil hb, by rw [hy]; exact HQR.out.reads hpl hb⟩)
      have hcap : n ≤ HC := by have := HQR.out.cap; rw [HLN.out] at this; exact this
      have hQlt := HQR.out.box.lt
      clear hx hy hil hpl
      go_wp2_with fail
      rw [hpr]
      clear hpr
      go_cut [25] (fun v25 wx => ∃ c, v25 = .bool c ∧ Hid (Below wt.heap.size wt wx))
      case first =>
        refine wp_region_G 14 (fun w' => w'.cell? ⟨Q, 0, none⟩ = some (.slice (some ⟨g, 0, none⟩) n HC) ∧ (w'.cell? ⟨g, i * 4, none⟩ = some (.int .i64 x.key) ∧ w'.cell? ⟨g, i * 4 + 1, none⟩ = some (.int .i64 x.tie) ∧ w'.cell? ⟨g, i * 4 + 2, none⟩ = some (.int .i64 x.item) ∧ w'.cell? ⟨g, i * 4 + 3, none⟩ = some (.int .i64 x.num)) ∧ (w'.cell? ⟨g, p * 4, none⟩ = some (.int .i64 y.key) ∧ w'.cell? ⟨g, p * 4 + 1, none⟩ = some (.int .i64 y.tie) ∧ w'.cell? ⟨g, p * 4 + 2, none⟩ = some (.int .i64 y.item) ∧ w'.cell? ⟨g, p * 4 + 3, none⟩ = some (.int .i64 y.num))) (by kernel_rfl) (HS.out _ (by repeat (first | exact Below.refl _ _ | refine below_dN ?_ _ | refine Below.drew ?_ | refine Below.alloc ?_ (by first | omega | (simp; done) | (simp; omega)) _ | refine Below.setCell ?_ (by first | omega | (simp; done) | (simp; omega)) _ | refine below_step (by assumption) (by first | omega | (simp; done) | (simp; omega)) ?_))) ?_
        intro hG0
        refine wpS1 0 hG0 ?_; intro hG1; clear hG0
        refine wpS1 1 hG1 ?_; intro hG2; clear hG1
        refine wpS1 2 hG2 ?_; intro hG3; clear hG2
        refine wpS2 3 hG3 ?_; intro hG4; clear hG3
        refine wpS1 4 hG4 ?_; intro hG5; clear hG4
        refine wpS1 5 hG5 ?_; intro hG6; clear hG5
        refine wpS2 6 hG6 ?_; intro hG7; clear hG6
        refine wpS1 7 hG7 ?_; intro hG8; clear hG7
        refine wpS1 8 hG8 ?_; intro hG9; clear hG8
        refine wpS1 9 hG9 ?_; intro hG10; clear hG9
        refine wpS2 10 hG10 ?_; intro hG11; clear hG10
        refine wpS1 11 hG11 ?_; intro hG12; clear hG11
        refine wpS1 12 hG12 ?_; intro hG13; clear hG12
        refine wpS2 13 hG13 ?_; intro hG14; clear hG13
        refine wpAnyG_ready (rs := [14]) (by kernel_rfl) (by simp) (AllG.cons rfl hG14 (fun K hK => ?_) AllG.nil)
        (go_simp; go_at_call 78; refine (before_any x y _).mono ?_; rintro e w5 ⟨⟨c, rfl⟩, hb5⟩; have HB5 := Lib.hid (show Below wt.heap.size wt w5 from below_step hb5 (show wt.heap.size ≤ _ by simp) (show Below wt.heap.size wt _ by repeat (first | exact Below.refl _ _ | refine below_dN ?_ _ | refine Below.drew ?_ | refine Below.alloc ?_ (by first | omega | (simp; done) | (simp; omega)) _ | refine Below.setCell ?_ (by first | omega | (simp; done) | (simp; omega)) _ | refine below_step (by assumption) (by first | omega | (simp; done) | (simp; omega)) ?_))); clear hb5)
        refine hK.out _ _ (Or.inl rfl) (fun hG15 => wpN ?_); clear hK hG14
        refine wpS1 15 hG15 ?_; intro hG16; clear hG15
        refine wpAnyG_done (by kernel_rfl) ?_ _; clear hG16
        go_wp2
        go_meet
        exact ⟨!c, rfl, HB5⟩
      case rest =>
        obtain ⟨c, rfl, HB5⟩ := hcut
        obtain ⟨w5, rfl⟩ : ∃ w5, w5 = wc := ⟨_, rfl⟩
        have hz5 := HB5.out.size
        have HQ5 := Lib.hid (HQR.out.up HB5.out)
        have HE5 := Lib.hid (HE.out.trans (HB5.out.mono (by omega)))
        cases c
        · go_wp2_with fail
          have HS5 := Lib.hid (show ∀ w' : World, Below w5.heap.size w5 w' → w'.cell? ⟨Q, 0, none⟩ = some (.slice (some ⟨g, 0, none⟩) n HC) ∧ (w'.cell? ⟨g, i * 4, none⟩ = some (.int .i64 x.key) ∧ w'.cell? ⟨g, i * 4 + 1, none⟩ = some (.int .i64 x.tie) ∧ w'.cell? ⟨g, i * 4 + 2, none⟩ = some (.int .i64 x.item) ∧ w'.cell? ⟨g, i * 4 + 3, none⟩ = some (.int .i64 x.num)) ∧ (w'.cell? ⟨g, p * 4, none⟩ = some (.int .i64 y.key) ∧ w'.cell? ⟨g, p * 4 + 1, none⟩ = some (.int .i64 y.tie) ∧ w'.cell? ⟨g, p * 4 + 2, none⟩ = some (.int .i64 y.item) ∧ w'.cell? ⟨g, p * 4 + 3, none⟩ = some (.int .i64 y.num)) from fun w' hb => HS.out w' (HB5.out.trans (hb.mono hz5)))
          refine wp_region_G 25 (fun w' => w'.cell? ⟨Q, 0, none⟩ = some (.slice (some ⟨g, 0, none⟩) n HC) ∧ (w'.cell? ⟨g, i * 4, none⟩ = some (.int .i64 x.key) ∧ w'.cell? ⟨g, i * 4 + 1, none⟩ = some (.int .i64 x.tie) ∧ w'.cell? ⟨g, i * 4 + 2, none⟩ = some (.int .i64 x.item) ∧ w'.cell? ⟨g, i * 4 + 3, none⟩ = some (.int .i64 x.num)) ∧ (w'.cell? ⟨g, p * 4, none⟩ = some (.int .i64 y.key) ∧ w'.cell? ⟨g, p * 4 + 1, none⟩ = some (.int .i64 y.tie) ∧ w'.cell? ⟨g, p * 4 + 2, none⟩ = some (.int .i64 y.item) ∧ w'.cell? ⟨g, p * 4 + 3, none⟩ = some (.int .i64 y.num))) (by kernel_rfl) (HS5.out _ (by repeat (first | exact Below.refl _ _ | refine below_dN ?_ _ | refine Below.drew ?_ | refine Below.alloc ?_ (by first | omega | (simp; done) | (simp; omega)) _ | refine Below.setCell ?_ (by first | omega | (simp; done) | (simp; omega)) _ | refine below_step (by assumption) (by first | omega | (simp; done) | (simp; omega)) ?_))) ?_
          intro hG0
          refine wpS1 0 hG0 ?_; intro hG1; clear hG0
          refine wpS1 1 hG1 ?_; intro hG2; clear hG1
          refine wpS1 2 hG2 ?_; intro hG3; clear hG2
          refine wpS2 3 hG3 ?_; intro hG4; clear hG3
          refine wpS1 4 hG4 ?_; intro hG5; clear hG4
          refine wpS1 5 hG5 ?_; intro hG6; clear hG5
          refine wpS1 6 hG6 ?_; intro hG7; clear hG6
          refine wpS1 7 hG7 ?_; intro hG8; clear hG7
          refine wpS2 8 hG8 ?_; intro hG9; clear hG8
          refine wpS1 9 hG9 ?_; intro hG10; clear hG9
          refine wpS1 10 hG10 ?_; intro hG11; clear hG10
          refine wpS1 11 hG11 ?_; intro hG12; clear hG11
          refine wpS1 12 hG12 ?_; intro hG13; clear hG12
          refine wpS2 13 hG13 ?_; intro hG14; clear hG13
          refine wpS1 14 hG14 ?_; intro hG15; clear hG14
          refine wpS1 15 hG15 ?_; intro hG16; clear hG15
          refine wpS2 16 hG16 ?_; intro hG17; clear hG16
          refine wpS1 17 hG17 ?_; intro hG18; clear hG17
          refine wpS1 18 hG18 ?_; intro hG19; clear hG18
          refine wpS1 19 hG19 ?_; intro hG20; clear hG19
          refine wpS2 20 hG20 ?_; intro hG21; clear hG20
          refine wpS1 21 hG21 ?_; intro hG22; clear hG21
          refine wpS1 22 hG22 ?_; intro hG23; clear hG22
          refine wpS2 23 hG23 ?_; intro hG24; clear hG23
          refine wpS1 24 hG24 ?_; intro hG25; clear hG24
          refine wpAnyG_ready (rs := [25]) (by kernel_rfl) (by simp) (AllG.cons rfl hG25 (fun K hK => ?_) AllG.nil)
          (refine step_stores (by rfl) 161 _ _ (by rfl) g (i * 4) [.int .i64 y.key, .int .i64 y.tie, .int .i64 y.item, .int .i64 y.num] (by rfl) (by rfl) (there_own (HQ5.out.up (by repeat (first | exact Below.refl _ _ | refine below_dN ?_ _ | refine Below.drew ?_ | refine Below.alloc ?_ (by first | omega | (simp; done) | (simp; omega)) _ | refine Below.setCell ?_ (by first | omega | (simp; done) | (simp; omega)) _ | refine below_step (by assumption) (by first | omega | (simp; done) | (simp; omega)) ?_))).own (by simp; have := HIL.out; omega)) (by kernel_rfl) (four_v rfl rfl rfl rfl) ?_; intro wA HWA; have HQA := Lib.hid ((HQ5.out.up (show Below w5.heap.size w5 w5.drew by repeat (first | exact Below.refl _ _ | refine below_dN ?_ _ | refine Below.drew ?_ | refine Below.alloc ?_ (by first | omega | (simp; done) | (simp; omega)) _ | refine Below.setCell ?_ (by first | omega | (simp; done) | (simp; omega)) _ | refine below_step (by assumption) (by first | omega | (simp; done) | (simp; omega)) ?_))).put HIL.out y HYL.out); rw [← HWA.out] at HQA)
          refine hK.out _ _ (Or.inl rfl) (fun hG26 => wpN ?_); clear hK hG25
          refine wpS1 26 hG26 ?_; intro hG27; clear hG26
          refine wpAnyG_ready (rs := [27]) (by kernel_rfl) (by simp) (AllG.cons rfl hG27 (fun K hK => ?_) AllG.nil)
          (refine step_stores (by rfl) 161 _ _ (by rfl) g (p * 4) [.int .i64 x.key, .int .i64 x.tie, .int .i64 x.item, .int .i64 x.num] (by rfl) (by rfl) (there_own HQA.out.1.own (by simp; have := HPL.out; omega)) (by kernel_rfl) (four_v rfl rfl rfl rfl) ?_; intro wB HWB; have HQB := Lib.hid (HQA.out.1.put (by rw [List.length_set]; exact HPL.out) x HXL.out); rw [← HWB.out] at HQB)
          refine hK.out _ _ (Or.inl rfl) (fun hG28 => wpN ?_); clear hK hG27
          refine wpAnyG_done (by kernel_rfl) ?_ _; clear hG28
          go_wp2
          go_roundw
          case rel => exact ⟨p, (es'.set i y).set p x, rfl, by omega, Lib.hid (by rw [List.length_set, List.length_set]; exact HLN.out), Lib.hid HQB.out.1, Lib.hid ((HE5.out.drew.trans HQA.out.2).trans HQB.out.2)⟩
          case measure => simp [RowKit.intOf]; omega
        · go_wp2_with fail
          refine bodyPost_ret (results_none rfl _ _ _) rfl ⟨⟨rfl, es', HLN.out, HQ5.out⟩, HE5.out⟩
    · obtain rfl : i = 0 := by omega
      go_wp2_with fail
      refine bodyPost_end (results_none rfl _ _ _) rfl ⟨⟨rfl, es', HLN.out, HQR.out⟩, HE.out⟩
end Go.Proofs.YtpobnjbpglaohaaGreat

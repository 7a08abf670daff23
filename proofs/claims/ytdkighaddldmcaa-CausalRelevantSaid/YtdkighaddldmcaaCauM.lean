/- The law CausalRelevant, walked. -/
import Derived.Test.YtdkighaddldmcaaCauL
import Derived.Deep.RegionLaw
namespace Go.Proofs.Ytdkighaddldmcaa
set_option linter.unusedSimpArgs false
set_option linter.unusedVariables false
open Go.RowKit
set_option linter.unusedVariables false

theorem own_drew {w : World} {B s n : Nat} {e : TypeId} {v : Value} {xs : List Value} (h : w.ownsRow B e s v n xs) : w.drew.ownsRow B e s v n xs := h
/-- The box of the task with a further goal fact. -/
def MoreAt (w : World) (bm : Nat) (t : Tsk) (x y : Int) (av ai ao : Option Addr) (cv ci co : Nat) : Prop :=
  ∃ A c, Boxed w bm (mor t x y) ⟨av, ai, A, ao, cv, ci, c, co⟩ ∧ FactsAt w w.heap.size A (t.goal ++ [(x, y)])
theorem MoreAt.mk {w w1 : World} {B bm : Nat} {t : Tsk} {x y : Int} {v : Value} {n : Nat} {av ai ao : Option Addr} {cv ci co : Nat} (h : w.ownsRow B 28 2 v n (fcc t.goal ++ [.int .i64 x, .int .i64 y])) (hn : n = t.goal.length + 1) (hl : t.goal.length ≤ 1000)
    (hw : Below w.heap.size w w1) (hb : bm < w1.heap.size) (h0 : w1.cell? ⟨bm, 0, none⟩ = some (.slice av t.vars.length cv)) (h1 : w1.cell? ⟨bm, 1, none⟩ = some (.slice ai t.init.length ci)) (h2 : w1.cell? ⟨bm, 2, none⟩ = some v) (h3 : w1.cell? ⟨bm, 3, none⟩ = some (.slice ao t.ops.length co)) : MoreAt w1 bm t x y av ai ao cv ci co := by
  have e : fcc t.goal ++ [.int .i64 x, .int .i64 y] = fcc (t.goal ++ [(x, y)]) := by rw [fcc_app]; rfl
  rw [e] at h
  obtain ⟨A, c, rfl, hf⟩ := own_facts h (by rw [hn, List.length_append]; rfl) (by rw [List.length_append]; simp; omega)
  exact ⟨A, c, ⟨hb, h0, h1, h2, h3⟩, hf.up hw⟩

theorem own_set {w : World} {B s n : Nat} {e : TypeId} {v u : Value} {xs : List Value} {p : Addr} (h : w.ownsRow B e s v n xs) (hp : p.block < B) : (w.setCell p u).ownsRow B e s v n xs := by
  rcases h.2 with ⟨rfl, h0⟩ | ⟨g, cap, cur, hv, hb, hg, hh⟩
  · exact ⟨h.1, .inl ⟨rfl, h0⟩⟩
  · exact ⟨h.1, .inr ⟨g, cap, cur, hv, hb, (Below.heap_setCell _ _ _ _ (by omega)).trans hg, hh⟩⟩
theorem src_one {w : World} {H : Nat} {x y : Int} (hH : w.heap[H]? = some (.cells #[.int .i64 x, .int .i64 y] 28 (0, 0))) : SrcAt w (some ⟨H, 0, none⟩) 1 1 2 [.int .i64 x, .int .i64 y] where
  none := fun e => nomatch e
  len := rfl
  cells := fun ad e => by cases e; exact cells_of_block (news := [.int .i64 x, .int .i64 y]) hH
  one := by intro u hu; simp at hu; rcases hu with rfl | rfl <;> rfl
theorem own_zero {W : World} {B E : Nat} (hb : B ≤ E) (h : W.heap[E]? = some (.cells #[] 28 (0, 0))) : W.ownsRow B 28 2 (.slice (some ⟨E, 0, none⟩) 0 0) 0 [] :=
  ⟨by simp, .inr ⟨E, 0, #[], rfl, hb, h, Nat.le_refl _, Nat.zero_le _, rfl, by simp⟩⟩
theorem heap_new0 {w : World} {o o' : Obj} : ((w.alloc o).alloc o').heap[w.heap.size]? = some o := by
  have h := (World.grownBy_alloc (w.alloc o) o' none).block w.heap.size (by simp) (by simp)
  exact h.trans (heap_alloc_new w o)
theorem heap_new1 {w : World} {o o' : Obj} : ((w.alloc o).alloc o').heap[w.heap.size + 1]? = some o' := by
  have := heap_alloc_new (w.alloc o) o'
  rwa [show (w.alloc o).heap.size = w.heap.size + 1 from by simp] at this
theorem own_shape {W : World} {B s n : Nat} {e : TypeId} {v : Value} {xs : List Value} (h : W.ownsRow B e s v n xs) : ∃ A c, v = .slice A n c := by
  rcases h.2 with ⟨rfl, h0⟩ | ⟨b, cap, cur, rfl, hb, hg, hh⟩
  · exact ⟨none, 0, by rw [h0]⟩
  · exact ⟨some ⟨b, 0, none⟩, cap, rfl⟩
theorem own_some' {g m c k : Nat} (h : Value.ownBlock (.slice (some ⟨g, 0, none⟩) m c) = some k) : k = g := by cases h; rfl
theorem own_or' {v : Value} {g m c k H B : Nat} (h : v.ownBlock = Value.ownBlock (.slice (some ⟨g, 0, none⟩) m c) ∨ v.ownBlock = some H) (hk : v.ownBlock = some k) (hg : B ≤ g) (hH : B ≤ H) : B ≤ k := by
  rcases h with h | h <;> rw [h] at hk <;> cases hk <;> assumption

set_option maxRecDepth 100000 in
set_option maxHeartbeats 16000000 in
theorem causalRelevant_any (t : Tsk) (p : Lies) (x y : Int) (w : World) (ht : TaskAt w w.heap.size t p) (hn : p.ag = none → p.cg = 0) :
    Calls Try.prog 3 #[TaskV t p, .agg #[.int .i64 x, .int .i64 y]] w fun e w' => e = .returned (.bool true) ∧ Below w.heap.size w w' := by
  have k0 := fun w1 => awake39_any w1
  have k1 := fun w1 (hb : Below w.heap.size w w1) => small_any t p w1 (ht.up hb)
  have k2 := fun w1 h (hb : Below w.heap.size w w1) => relevant_any t p w1 (ht.up hb) h
  have k3 := fun w1 h (hb : Below w.heap.size w w1) => rrelevant_any t p w1 (ht.up hb) h
  obtain ⟨av, ai, ag, ao, cv, ci, cg, co⟩ := p
  unfold TaskV at *
  dsimp only at *
  cases e1 : smB t
  · rw [e1] at k1
    clear k2 k3
    go_enter Try.func3, Try.ntmps3
    go_wp2_with fail; refine (k1 _ (by repeat (first | exact Below.refl _ _ | refine below_dN ?_ _ | refine Below.drew ?_ | refine Below.alloc ?_ (by first | omega | (simp; done) | (simp; omega)) _ | refine Below.setCell ?_ (by first | omega | (simp; done) | (simp; omega)) _ | refine below_step (by assumption) (by first | omega | (simp; done) | (simp; omega)) ?_))).mono ?_; rintro e w1 ⟨rfl, hb1⟩; obtain ⟨hc1, hf1, hz1, hlt1, hle1⟩ := cellsIf hb1 (by (try simp); exact rfl); (try have : w.heap.size < w1.heap.size := (by omega)); (try have : w.heap.size < w1.heap.size + 1 := (by omega)); (try have : w.heap.size < w1.heap.size + 1 + 1 := (by omega)); (try have : w.heap.size + 1 < w1.heap.size := (by omega)); (try have : w.heap.size + 1 < w1.heap.size + 1 := (by omega)); (try have : w.heap.size + 1 < w1.heap.size + 1 + 1 := (by omega)); (try have : w.heap.size + 1 + 1 < w1.heap.size := (by omega)); (try have : w.heap.size + 1 + 1 < w1.heap.size + 1 := (by omega)); (try have : w.heap.size + 1 + 1 < w1.heap.size + 1 + 1 := (by omega))
    go_wp2_with fail; refine (k0 _).mono ?_; rintro e w2 ⟨rfl, hb2⟩; obtain ⟨hc2, hf2, hz2, hlt2, hle2⟩ := cellsIf hb2 (by (try simp); exact rfl); (try have : w.heap.size < w2.heap.size := (by omega)); (try have : w.heap.size < w2.heap.size + 1 := (by omega)); (try have : w.heap.size < w2.heap.size + 1 + 1 := (by omega)); (try have : w.heap.size + 1 < w2.heap.size := (by omega)); (try have : w.heap.size + 1 < w2.heap.size + 1 := (by omega)); (try have : w.heap.size + 1 < w2.heap.size + 1 + 1 := (by omega)); (try have : w.heap.size + 1 + 1 < w2.heap.size := (by omega)); (try have : w.heap.size + 1 + 1 < w2.heap.size + 1 := (by omega)); (try have : w.heap.size + 1 + 1 < w2.heap.size + 1 + 1 := (by omega)); (try have : w1.heap.size < w2.heap.size := (by omega)); (try have : w1.heap.size < w2.heap.size + 1 := (by omega)); (try have : w1.heap.size < w2.heap.size + 1 + 1 := (by omega)); (try have : w1.heap.size + 1 < w2.heap.size := (by omega)); (try have : w1.heap.size + 1 < w2.heap.size + 1 := (by omega)); (try have : w1.heap.size + 1 < w2.heap.size + 1 + 1 := (by omega)); (try have : w1.heap.size + 1 + 1 < w2.heap.size := (by omega)); (try have : w1.heap.size + 1 + 1 < w2.heap.size + 1 := (by omega)); (try have : w1.heap.size + 1 + 1 < w2.heap.size + 1 + 1 := (by omega))
    go_wp2
    go_ret
    exact ⟨rfl, by repeat (first | exact Below.refl _ _ | refine below_dN ?_ _ | refine Below.drew ?_ | refine Below.alloc ?_ (by first | omega | (simp; done) | (simp; omega)) _ | refine Below.setCell ?_ (by first | omega | (simp; done) | (simp; omega)) _ | refine below_step (by assumption) (by first | omega | (simp; done) | (simp; omega)) ?_)⟩
  have hs := small_of e1
  have HS := Lib.hid hs
  have n64 := hs.right.nv
  have g64 := hs.right.ng
  rw [e1] at k1
  have K2 := Lib.hid (fun w1 => k2 w1 hs.chk)
  have K3 := Lib.hid (fun w1 => k3 w1 hs.right)
  have k5 : ∀ w1 A c, Below w.heap.size w w1 → FactsAt w1 w1.heap.size A (t.goal ++ [(x, y)]) → Calls Try.prog 13 #[.slice av t.vars.length cv, .slice A (t.goal.length + 1) c] w1 fun e w' => e = .returned (.bool (faB t.vars (t.goal ++ [(x, y)]))) ∧ Below w1.heap.size w1 w' := fun w1 A c hb hg => by
    have := bproper_any t.vars (t.goal ++ [(x, y)]) av A cv c w1 (ht.vars.up hb) hg
    rwa [List.length_append] at this
  have k6 : ∀ w1 A c, Below w.heap.size w w1 → faB t.vars (t.goal ++ [(x, y)]) = true → FactsAt w1 w1.heap.size A (t.goal ++ [(x, y)]) → Calls Try.prog 11 #[.agg #[.slice av t.vars.length cv, .slice ai t.init.length ci, .slice A (t.goal.length + 1) c, .slice ao t.ops.length co]] w1 fun e w' => (∃ g, e = .returned (.tuple #[.slice (some ⟨g, 0, none⟩) t.vars.length t.vars.length, .nilIface]) ∧ w'.rowIs g 4 t.vars.length (fun v => .bool (relB (mor t x y) v)) ∧ w1.heap.size ≤ g) ∧ Below w1.heap.size w1 w' := fun w1 A c hb hf hg => by
    have := relevant_any (mor t x y) ⟨av, ai, A, ao, cv, ci, c, co⟩ w1 ⟨ht.vars.up hb, ht.init.up hb, hg, ht.ops.keep (fun _ hp => hb.cell hp) hb.size⟩ (mor_chk hs.chk hf)
    unfold TaskV mor at this
    dsimp only at this
    rw [List.length_append] at this
    exact this
  have K5 := Lib.hid k5
  have K6 := Lib.hid k6
  have Hsrc := Lib.hid (fun X (hb : Below w.heap.size w X) => facts_srcAt (c := cg) (ht.goal.keep (w' := X) (fun _ hp => hb.cell hp) hb.size) hn)
  clear hs k2 k3 k5 k6 e1 hn
  go_enter Try.func3, Try.ntmps3
  go_wp2_with fail; refine (k1 _ (by repeat (first | exact Below.refl _ _ | refine below_dN ?_ _ | refine Below.drew ?_ | refine Below.alloc ?_ (by first | omega | (simp; done) | (simp; omega)) _ | refine Below.setCell ?_ (by first | omega | (simp; done) | (simp; omega)) _ | refine below_step (by assumption) (by first | omega | (simp; done) | (simp; omega)) ?_))).mono ?_; rintro e w1 ⟨rfl, hb1⟩; obtain ⟨hc1, hf1, hz1, hlt1, hle1⟩ := cellsIf hb1 (by (try simp); exact rfl); (try have : w.heap.size < w1.heap.size := (by omega)); (try have : w.heap.size < w1.heap.size + 1 := (by omega)); (try have : w.heap.size < w1.heap.size + 1 + 1 := (by omega)); (try have : w.heap.size + 1 < w1.heap.size := (by omega)); (try have : w.heap.size + 1 < w1.heap.size + 1 := (by omega)); (try have : w.heap.size + 1 < w1.heap.size + 1 + 1 := (by omega)); (try have : w.heap.size + 1 + 1 < w1.heap.size := (by omega)); (try have : w.heap.size + 1 + 1 < w1.heap.size + 1 := (by omega)); (try have : w.heap.size + 1 + 1 < w1.heap.size + 1 + 1 := (by omega))
  have hbx1 : Boxed w1 w.heap.size t ⟨av, ai, ag, ao, cv, ci, cg, co⟩ := Boxed.up (by constructor <;> first | (simp; done) | (simp; omega)) hb1
  have f10 : w1.cell? ⟨w.heap.size + 1, 0, none⟩ = some (.int .i64 x) := (hb1.cell (p := ⟨w.heap.size + 1, 0, none⟩) (by first | (simp; done) | (simp; omega))).trans (by simp)
  have f11 : w1.cell? ⟨w.heap.size + 1, 1, none⟩ = some (.int .i64 y) := (hb1.cell (p := ⟨w.heap.size + 1, 1, none⟩) (by first | (simp; done) | (simp; omega))).trans (by simp)
  have hs1 : w.heap.size + 2 ≤ w1.heap.size := by first | (simpa using hz1) | omega
  have hbw1 : Below w.heap.size w w1 := by repeat (first | exact Below.refl _ _ | refine below_dN ?_ _ | refine Below.drew ?_ | refine Below.alloc ?_ (by first | omega | (simp; done) | (simp; omega)) _ | refine Below.setCell ?_ (by first | omega | (simp; done) | (simp; omega)) _ | refine below_step (by assumption) (by first | omega | (simp; done) | (simp; omega)) ?_)
  go_wp2_with fail; refine (k0 _).mono ?_; rintro e w2 ⟨rfl, hb2⟩; obtain ⟨hc2, hf2, hz2, hlt2, hle2⟩ := cellsIf hb2 (by (try simp); exact rfl); (try have : w.heap.size < w2.heap.size := (by omega)); (try have : w.heap.size < w2.heap.size + 1 := (by omega)); (try have : w.heap.size < w2.heap.size + 1 + 1 := (by omega)); (try have : w.heap.size + 1 < w2.heap.size := (by omega)); (try have : w.heap.size + 1 < w2.heap.size + 1 := (by omega)); (try have : w.heap.size + 1 < w2.heap.size + 1 + 1 := (by omega)); (try have : w.heap.size + 1 + 1 < w2.heap.size := (by omega)); (try have : w.heap.size + 1 + 1 < w2.heap.size + 1 := (by omega)); (try have : w.heap.size + 1 + 1 < w2.heap.size + 1 + 1 := (by omega)); (try have : w1.heap.size < w2.heap.size := (by omega)); (try have : w1.heap.size < w2.heap.size + 1 := (by omega)); (try have : w1.heap.size < w2.heap.size + 1 + 1 := (by omega)); (try have : w1.heap.size + 1 < w2.heap.size := (by omega)); (try have : w1.heap.size + 1 < w2.heap.size + 1 := (by omega)); (try have : w1.heap.size + 1 < w2.heap.size + 1 + 1 := (by omega)); (try have : w1.heap.size + 1 + 1 < w2.heap.size := (by omega)); (try have : w1.heap.size + 1 + 1 < w2.heap.size + 1 := (by omega)); (try have : w1.heap.size + 1 + 1 < w2.heap.size + 1 + 1 := (by omega))
  have hbx2 := hbx1.up hb2
  have f20 := (hb2.cell (p := ⟨w.heap.size + 1, 0, none⟩) (by show w.heap.size + 1 < _; omega)).trans f10
  have f21 := (hb2.cell (p := ⟨w.heap.size + 1, 1, none⟩) (by show w.heap.size + 1 < _; omega)).trans f11
  have hbw2 := hbw1.trans (hb2.mono hbw1.size)
  have z2 := hbw2.size
  have hs2 : w.heap.size + 2 ≤ w2.heap.size := by have := hb2.size; omega
  clear hc1 hc2 hf1 hf2 hlt1 hlt2 hle1 hle2 hz1 hz2 hb1 hb2 hbx1 hbw1 f10 f11
  obtain ⟨z0, y0, y1, y2, y3⟩ := id hbx2
  dsimp only at y0 y1 y2 y3
  go_wp2_with fail
  refine (K2.out _ hbw2).mono ?_
  rintro e w3 ⟨⟨g1, rfl, hr1, hg1⟩, hb3⟩
  have hbx3 := hbx2.up hb3
  have hbw3 := hbw2.trans (hb3.mono z2)
  have z3 := hbw3.size
  have s3 := hb3.size
  clear z0 y0 y1 y2 y3 hbx2
  obtain ⟨z0, y0, y1, y2, y3⟩ := id hbx3
  dsimp only at y0 y1 y2 y3
  go_wp2_with fail
  refine (K3.out _ hbw3).mono ?_
  rintro e w4 ⟨⟨g2, rfl, hr2, hg2⟩, hb4⟩
  have hbx4 := hbx3.up hb4
  have hr1' := row_up hr1 hb4
  have hbw4 := hbw3.trans (hb4.mono z3)
  have z4 := hbw4.size
  have s4 := hb4.size
  have hb24 : Below w2.heap.size w2 w4 := hb3.trans (hb4.mono s3)
  have f40 := (hb24.cell (p := ⟨w.heap.size + 1, 0, none⟩) (by show w.heap.size + 1 < _; omega)).trans f20
  have f41 := (hb24.cell (p := ⟨w.heap.size + 1, 1, none⟩) (by show w.heap.size + 1 < _; omega)).trans f21
  have HR1 := Lib.hid hr1'
  have HR2 := Lib.hid hr2
  have hs4 : w.heap.size + 2 ≤ w4.heap.size := by omega
  clear z0 y0 y1 y2 y3 hbx3 hr1 hr1' hr2 hb3 hb4 hb24 f20 f21 hg1 hg2
  go_wp2
  go_loopw [40] (fun i wr => ∃ k : Nat, k ≤ t.vars.length ∧ i = .int .i64 k ∧ Below w4.heap.size w4 wr) (fun i _ => t.vars.length - (intOf i).toNat)
  case atStart => exact ⟨0, by omega, rfl, Below.refl _ _⟩
  case round =>
    obtain ⟨k, hk, rfl, hbel⟩ := hrel
    have bz := hbel.size
    by_cases hlt : k < t.vars.length
    · have d1 := (row_up HR1.out hbel).cell hlt
      have d2 := (row_up HR2.out hbel).cell hlt
      have x0 : (0 : Int) ≤ (k : Int) := by omega
      have x1 : (k : Int) < (t.vars.length : Int) := by omega
      go_wp2_with fail
      go_quiet (fail)
      go_wp2
      go_roundw
      case rel => exact ⟨k + 1, by omega, by go_num, by repeat (first | exact Below.refl _ _ | refine below_dN ?_ _ | refine Below.drew ?_ | refine Below.alloc ?_ (by first | omega | (simp; done) | (simp; omega)) _ | refine Below.setCell ?_ (by first | omega | (simp; done) | (simp; omega)) _ | refine below_step (by assumption) (by first | omega | (simp; done) | (simp; omega)) ?_)⟩
      case measure => simp [intOf]; omega
    have hbx5 := hbx4.up hbel
    have hbw5 := hbw4.trans (hbel.mono z4)
    have HR3 := Lib.hid (row_up HR1.out hbel)
    have f50 := (hbel.cell (p := ⟨w.heap.size + 1, 0, none⟩) (by show w.heap.size + 1 < _; omega)).trans f40
    have f51 := (hbel.cell (p := ⟨w.heap.size + 1, 1, none⟩) (by show w.heap.size + 1 < _; omega)).trans f41
    have hs5 : w.heap.size + 2 ≤ wr.heap.size := by omega
    obtain ⟨w5, rfl⟩ : ∃ w5 : World, w5 = wr := ⟨_, rfl⟩
    clear HR1 HR2 f40 f41 hbel hbx4 hs4
    obtain ⟨z0, y0, y1, y2, y3⟩ := id hbx5
    dsimp only at y0 y1 y2 y3
    have z5 := hbw5.size
    go_wp2
    clear hlt hk
    go_loopw [56] (fun i wr => ∃ k : Nat, k ≤ t.goal.length ∧ i = .int .i64 k ∧ Below w5.heap.size w5 wr) (fun i _ => t.goal.length - (intOf i).toNat)
    case atStart => exact ⟨0, by omega, rfl, Below.refl _ _⟩
    case round =>
      clear z0 y0 y1 y2 y3
      obtain ⟨k, hk, rfl, hbel⟩ := hrel
      have bz := hbel.size
      by_cases hlt : k < t.goal.length
      · obtain ⟨b, o, ea, hb, hc⟩ := ht.goal.at_ hlt
        dsimp only at ea
        subst ea
        have hbw6 := hbw5.trans (hbel.mono z5)
        have d1 := (hbw6.cell (p := ⟨b, o + k * 2, none⟩) hb).trans (hc k hlt).1
        have d2 := (hbw6.cell (p := ⟨b, o + k * 2 + 1, none⟩) hb).trans (hc k hlt).2
        clear hc
        have bz6 := hbw6.size
        have gb : b < wr.heap.size := by omega
        have hgv := fa_at HS.out.right.goal hlt
        obtain ⟨v, hv⟩ : ∃ v : Nat, fv t.goal k = (v : Int) := ⟨(fv t.goal k).toNat, by omega⟩
        have hrg := rel_goal hlt hv
        rw [hv] at d1 hgv
        have hvn : v < t.vars.length := by omega
        have r1 := (row_up HR3.out hbel).cell hvn
        rw [hrg] at r1
        have x0 : (0 : Int) ≤ (v : Int) := by omega
        have x1 : (v : Int) < (t.vars.length : Int) := by omega
        have gl := (row_up HR3.out hbel).lt
        clear hv hgv hrg
        go_wp2
        go_roundw
        case rel => exact ⟨k + 1, by omega, by go_num, hbel.alloc bz _⟩
        case measure => simp [intOf]; omega
      have hbx6 := hbx5.up hbel
      have hbw6 := hbw5.trans (hbel.mono z5)
      have HR6 := Lib.hid (row_up HR3.out hbel)
      have f60 := (hbel.cell (p := ⟨w.heap.size + 1, 0, none⟩) (by show w.heap.size + 1 < _; omega)).trans f50
      have f61 := (hbel.cell (p := ⟨w.heap.size + 1, 1, none⟩) (by show w.heap.size + 1 < _; omega)).trans f51
      have hs6 : w.heap.size + 2 ≤ wr.heap.size := by omega
      obtain ⟨w6, rfl⟩ : ∃ w6 : World, w6 = wr := ⟨_, rfl⟩
      clear HR3 f50 f51 hbel hbx5 hs5 bz
      obtain ⟨z0, y0, y1, y2, y3⟩ := id hbx6
      dsimp only at y0 y1 y2 y3
      have z6 := hbw6.size
      go_upto_region 19 with fail
      clear hlt hk
      go_cut [11] (fun v wx => v = .pointer (some ⟨w6.heap.size, 0, none⟩) ∧ Boxed wx w6.heap.size t ⟨av, ai, ag, ao, cv, ci, cg, co⟩ ∧ w6.heap.size < wx.heap.size ∧ wx.frozen? ⟨w6.heap.size, 2, none⟩ = false ∧ Below w6.heap.size w6 wx)
      case first =>
        go_wp2
        go_meet
        exact ⟨rfl, by (constructor <;> first | (simp; done) | (simp; omega)), by first | (simp; done) | (simp; omega), by simp, by repeat (first | exact Below.refl _ _ | refine below_dN ?_ _ | refine Below.drew ?_ | refine Below.alloc ?_ (by first | omega | (simp; done) | (simp; omega)) _ | refine Below.setCell ?_ (by first | omega | (simp; done) | (simp; omega)) _ | refine below_step (by assumption) (by first | omega | (simp; done) | (simp; omega)) ?_)⟩
      case rest =>
        obtain ⟨rfl, hbt7, hlt7, hfz, hb67⟩ := hcut
        obtain ⟨w7, rfl⟩ : ∃ w7 : World, w7 = wc := ⟨_, rfl⟩
        have hbxa := hbx6.up hb67
        have hbw7 := hbw6.trans (hb67.mono z6)
        have z7 := hbw7.size
        have fa0 := (hb67.cell (p := ⟨w.heap.size + 1, 0, none⟩) (by show w.heap.size + 1 < _; omega)).trans f60
        have fa1 := (hb67.cell (p := ⟨w.heap.size + 1, 1, none⟩) (by show w.heap.size + 1 < _; omega)).trans f61
        have hs7 : w.heap.size + 2 ≤ w7.heap.size := by omega
        clear z0 y0 y1 y2 y3
        obtain ⟨z0, y0, y1, y2, y3⟩ := id hbxa
        obtain ⟨p4, p0, p1, p2, p3⟩ := hbt7
        dsimp only at y0 y1 y2 y3 p0 p1 p2 p3
        have g7 : w.heap.size < w7.heap.size := by omega
        have g8 : w.heap.size + 1 < w7.heap.size := by omega
        go_upto_region 20 with fail
        go_cut [11] (fun v wx => ∃ bm, v = .pointer (some ⟨bm, 0, none⟩) ∧ MoreAt wx bm t x y av ai ao cv ci co ∧ Below w6.heap.size w6 wx)
        case first =>
          obtain ⟨inf, hi, iz0, iz1, iz2⟩ := info_parts infoFc
          go_wp2_with fail
          go_region_law (first | (refine step_append_src (by rfl) _ _ 23 (by rfl) w7.heap.size 28 inf (.agg #[.int .i64 0, .int .i64 0]) 2 16 undFc hi iz0 iz1 iz2 rfl (by decide) (.slice (some ⟨w7.heap.size, 0, none⟩) 0 0) 0 [] (by rfl) (own_zero (by omega) (by first | exact heap_alloc_new _ _ | exact heap_new1 | exact heap_new0)) ag t.goal.length cg _ (by rfl) (Hsrc.out _ (by repeat (first | exact Below.refl _ _ | refine below_dN ?_ _ | refine Below.drew ?_ | refine Below.alloc ?_ (by first | omega | (simp; done) | (simp; omega)) _ | refine Below.setCell ?_ (by first | omega | (simp; done) | (simp; omega)) _ | refine below_step (by assumption) (by first | omega | (simp; done) | (simp; omega)) ?_))) (by unfold maxLen; omega) (by omega) (by first | omega | (simp; done) | (simp; omega)) ?_; intro v3 w3 hown3 hgrow3 hat3; go_loud (have hb3 : Below w7.heap.size w7 w3 := Below.grown (show Below w7.heap.size w7 _ by repeat (first | exact Below.refl _ _ | refine below_dN ?_ _ | refine Below.drew ?_ | refine Below.alloc ?_ (by first | omega | (simp; done) | (simp; omega)) _ | refine Below.setCell ?_ (by first | omega | (simp; done) | (simp; omega)) _ | refine below_step (by assumption) (by first | omega | (simp; done) | (simp; omega)) ?_)) hgrow3 (by first | omega | (simp; done) | (simp; omega)) (fun k hk => by have := own_some' hk; omega)); go_loud (have hs3 := hb3.size); go_loud (have l0 := (hb3.cell (p := ⟨w.heap.size + 1, 0, none⟩) g8).trans fa0); go_loud (have l1 := (hb3.cell (p := ⟨w.heap.size + 1, 1, none⟩) g8).trans fa1); go_loud (have hbw3 : Below w.heap.size w w3 := hbw7.trans (hb3.mono z7)); go_loud (have hat3' : ∀ k, v3.ownBlock = some k → w7.heap.size ≤ k := fun k hk => own_or' hat3 hk (by omega) (by first | omega | (simp; done) | (simp; omega))); go_loud (simp only [Nat.zero_add, List.nil_append] at hown3); (first | (have hH3 : w3.heap[w7.heap.size]? = some (.cells #[.int .i64 x, .int .i64 y] 28 (0, 0)) := (hgrow3.block _ (by first | omega | (simp; done) | (simp; omega)) (by simp [Value.ownBlock])).trans (by first | exact heap_alloc_new _ _ | exact heap_new1 | exact heap_new0)) | (have hH3 : w3.heap[w7.heap.size + 1]? = some (.cells #[.int .i64 x, .int .i64 y] 28 (0, 0)) := (hgrow3.block _ (by first | omega | (simp; done) | (simp; omega)) (by simp [Value.ownBlock])).trans (by first | exact heap_alloc_new _ _ | exact heap_new1 | exact heap_new0)) | skip)) | (refine step_append_src (by rfl) _ _ 23 (by rfl) w7.heap.size 28 inf (.agg #[.int .i64 0, .int .i64 0]) 2 16 undFc hi iz0 iz1 iz2 rfl (by decide) (.slice (some ⟨w7.heap.size + 1, 0, none⟩) 0 0) 0 [] (by rfl) (own_zero (by omega) (by first | exact heap_alloc_new _ _ | exact heap_new1 | exact heap_new0)) ag t.goal.length cg _ (by rfl) (Hsrc.out _ (by repeat (first | exact Below.refl _ _ | refine below_dN ?_ _ | refine Below.drew ?_ | refine Below.alloc ?_ (by first | omega | (simp; done) | (simp; omega)) _ | refine Below.setCell ?_ (by first | omega | (simp; done) | (simp; omega)) _ | refine below_step (by assumption) (by first | omega | (simp; done) | (simp; omega)) ?_))) (by unfold maxLen; omega) (by omega) (by first | omega | (simp; done) | (simp; omega)) ?_; intro v3 w3 hown3 hgrow3 hat3; go_loud (have hb3 : Below w7.heap.size w7 w3 := Below.grown (show Below w7.heap.size w7 _ by repeat (first | exact Below.refl _ _ | refine below_dN ?_ _ | refine Below.drew ?_ | refine Below.alloc ?_ (by first | omega | (simp; done) | (simp; omega)) _ | refine Below.setCell ?_ (by first | omega | (simp; done) | (simp; omega)) _ | refine below_step (by assumption) (by first | omega | (simp; done) | (simp; omega)) ?_)) hgrow3 (by first | omega | (simp; done) | (simp; omega)) (fun k hk => by have := own_some' hk; omega)); go_loud (have hs3 := hb3.size); go_loud (have l0 := (hb3.cell (p := ⟨w.heap.size + 1, 0, none⟩) g8).trans fa0); go_loud (have l1 := (hb3.cell (p := ⟨w.heap.size + 1, 1, none⟩) g8).trans fa1); go_loud (have hbw3 : Below w.heap.size w w3 := hbw7.trans (hb3.mono z7)); go_loud (have hat3' : ∀ k, v3.ownBlock = some k → w7.heap.size ≤ k := fun k hk => own_or' hat3 hk (by omega) (by first | omega | (simp; done) | (simp; omega))); go_loud (simp only [Nat.zero_add, List.nil_append] at hown3); (first | (have hH3 : w3.heap[w7.heap.size]? = some (.cells #[.int .i64 x, .int .i64 y] 28 (0, 0)) := (hgrow3.block _ (by first | omega | (simp; done) | (simp; omega)) (by simp [Value.ownBlock])).trans (by first | exact heap_alloc_new _ _ | exact heap_new1 | exact heap_new0)) | (have hH3 : w3.heap[w7.heap.size + 1]? = some (.cells #[.int .i64 x, .int .i64 y] 28 (0, 0)) := (hgrow3.block _ (by first | omega | (simp; done) | (simp; omega)) (by simp [Value.ownBlock])).trans (by first | exact heap_alloc_new _ _ | exact heap_new1 | exact heap_new0)) | skip)) | (refine step_append_src (by rfl) _ _ 23 (by rfl) w7.heap.size 28 inf (.agg #[.int .i64 0, .int .i64 0]) 2 16 undFc hi iz0 iz1 iz2 rfl (by decide) v3 t.goal.length _ (by rfl) (by first | exact hown3 | exact hown3.alloc _ | exact own_drew (hown3.alloc _)) (some ⟨w7.heap.size, 0, none⟩) 1 1 _ (by rfl) (by first | exact src_one hH3 | exact src_one (heap_alloc_new _ _)) (by unfold maxLen; omega) (by omega) (by first | omega | (simp; done) | (simp; omega)) ?_; intro v4 w4 hown4 hgrow4 hat4; go_loud (obtain ⟨A4, cc4, rfl⟩ := own_shape hown4); go_loud (have hb4 : Below w7.heap.size w7 w4 := Below.grown (show Below w7.heap.size w7 _ by first | exact hb3 | exact hb3.alloc (by omega) _ | exact (hb3.alloc (by omega) _).drew | exact hb3.drew) hgrow4 (by first | omega | (simp; done) | (simp; omega)) (fun k hk => hat3' k hk)); go_loud (have hs4' := hb4.size); go_loud (have hbw4' : Below w.heap.size w w4 := hbw7.trans (hb4.mono z7)); go_loud (have c0 := (hb4.cell (p := ⟨w6.heap.size, 0, none⟩) p4).trans p0); go_loud (have c1 := (hb4.cell (p := ⟨w6.heap.size, 1, none⟩) p4).trans p1); go_loud (have c2 := (hb4.cell (p := ⟨w6.heap.size, 2, none⟩) p4).trans p2); go_loud (have c3 := (hb4.cell (p := ⟨w6.heap.size, 3, none⟩) p4).trans p3); go_loud (have c4 : w6.heap.size < w4.heap.size := by omega); go_loud (have c5 := (hb4.frozen (p := ⟨w6.heap.size, 2, none⟩) p4).trans hfz)) | (refine step_append_src (by rfl) _ _ 23 (by rfl) w7.heap.size 28 inf (.agg #[.int .i64 0, .int .i64 0]) 2 16 undFc hi iz0 iz1 iz2 rfl (by decide) v3 t.goal.length _ (by rfl) (by first | exact hown3 | exact hown3.alloc _ | exact own_drew (hown3.alloc _)) (some ⟨w7.heap.size + 1, 0, none⟩) 1 1 _ (by rfl) (by first | exact src_one hH3 | exact src_one (heap_alloc_new _ _)) (by unfold maxLen; omega) (by omega) (by first | omega | (simp; done) | (simp; omega)) ?_; intro v4 w4 hown4 hgrow4 hat4; go_loud (obtain ⟨A4, cc4, rfl⟩ := own_shape hown4); go_loud (have hb4 : Below w7.heap.size w7 w4 := Below.grown (show Below w7.heap.size w7 _ by first | exact hb3 | exact hb3.alloc (by omega) _ | exact (hb3.alloc (by omega) _).drew | exact hb3.drew) hgrow4 (by first | omega | (simp; done) | (simp; omega)) (fun k hk => hat3' k hk)); go_loud (have hs4' := hb4.size); go_loud (have hbw4' : Below w.heap.size w w4 := hbw7.trans (hb4.mono z7)); go_loud (have c0 := (hb4.cell (p := ⟨w6.heap.size, 0, none⟩) p4).trans p0); go_loud (have c1 := (hb4.cell (p := ⟨w6.heap.size, 1, none⟩) p4).trans p1); go_loud (have c2 := (hb4.cell (p := ⟨w6.heap.size, 2, none⟩) p4).trans p2); go_loud (have c3 := (hb4.cell (p := ⟨w6.heap.size, 3, none⟩) p4).trans p3); go_loud (have c4 : w6.heap.size < w4.heap.size := by omega); go_loud (have c5 := (hb4.frozen (p := ⟨w6.heap.size, 2, none⟩) p4).trans hfz)) | (refine step_append_src (by rfl) _ _ 23 (by rfl) w7.heap.size 28 inf (.agg #[.int .i64 0, .int .i64 0]) 2 16 undFc hi iz0 iz1 iz2 rfl (by decide) v3 t.goal.length _ (by rfl) (by first | exact hown3 | exact hown3.alloc _ | exact own_drew (hown3.alloc _)) (some ⟨w3.heap.size, 0, none⟩) 1 1 _ (by rfl) (by first | exact src_one hH3 | exact src_one (heap_alloc_new _ _)) (by unfold maxLen; omega) (by omega) (by first | omega | (simp; done) | (simp; omega)) ?_; intro v4 w4 hown4 hgrow4 hat4; go_loud (obtain ⟨A4, cc4, rfl⟩ := own_shape hown4); go_loud (have hb4 : Below w7.heap.size w7 w4 := Below.grown (show Below w7.heap.size w7 _ by first | exact hb3 | exact hb3.alloc (by omega) _ | exact (hb3.alloc (by omega) _).drew | exact hb3.drew) hgrow4 (by first | omega | (simp; done) | (simp; omega)) (fun k hk => hat3' k hk)); go_loud (have hs4' := hb4.size); go_loud (have hbw4' : Below w.heap.size w w4 := hbw7.trans (hb4.mono z7)); go_loud (have c0 := (hb4.cell (p := ⟨w6.heap.size, 0, none⟩) p4).trans p0); go_loud (have c1 := (hb4.cell (p := ⟨w6.heap.size, 1, none⟩) p4).trans p1); go_loud (have c2 := (hb4.cell (p := ⟨w6.heap.size, 2, none⟩) p4).trans p2); go_loud (have c3 := (hb4.cell (p := ⟨w6.heap.size, 3, none⟩) p4).trans p3); go_loud (have c4 : w6.heap.size < w4.heap.size := by omega); go_loud (have c5 := (hb4.frozen (p := ⟨w6.heap.size, 2, none⟩) p4).trans hfz)))
          all_goals (go_wp2; go_meet)
          all_goals exact ⟨_, rfl, MoreAt.mk (own_set hown4 hlt7) rfl (by omega) (Below.refl _ _) (by first | exact c4 | simpa using c4) ((World.cell?_setCell_other _ _ _ _ (by first | (simp; done) | (simp; omega))).trans c0) ((World.cell?_setCell_other _ _ _ _ (by first | (simp; done) | (simp; omega))).trans c1) (World.cell?_setCell_same' _ _ _ (by rw [c2]; rfl)) ((World.cell?_setCell_other _ _ _ _ (by first | (simp; done) | (simp; omega))).trans c3), (hb67.trans (hb4.mono (Nat.le_of_lt hlt7))).setCell (Nat.le_refl _) _⟩
        case rest =>
          clear hfz hbxa fa0 fa1 hs7 p4 p0 p1 p2 p3 g7 g8 hbw7 z7
          obtain ⟨bm, rfl, ⟨A, c, hbm, hfa⟩, hbel⟩ := hcut
          have hbx7 := hbx6.up hbel
          have hbw7 := hbw6.trans (hbel.mono z6)
          have HR7 := Lib.hid (row_up HR6.out hbel)
          have f70 := (hbel.cell (p := ⟨w.heap.size + 1, 0, none⟩) (by show w.heap.size + 1 < _; omega)).trans f60
          have hs7 := Nat.le_trans hs6 hbel.size
          clear z0 y0 y1 y2 y3
          obtain ⟨z0, y0, y1, y2, y3⟩ := id hbx7
          obtain ⟨m0, m1, m2, m3, m4⟩ := id hbm
          unfold mor at m1 m2 m3 m4
          dsimp only at y0 y1 y2 y3 m1 m2 m3 m4
          rw [List.length_append] at m3
          simp only [List.length_cons, List.length_nil, Nat.zero_add] at m3
          have z7 := hbw7.size
          obtain ⟨w7, hw7⟩ : ∃ w7 : World, w7 = w6 := ⟨_, rfl⟩
          clear hw7
          have k5 := K5.out _ A c hbw7 hfa
          cases e5 : faB t.vars (t.goal ++ [(x, y)])
          · rw [e5] at k5
            go_wp2_with fail
            refine k5.mono ?_
            rintro e w8 ⟨rfl, hb8⟩
            go_wp2
            go_ret
            exact ⟨rfl, hbw7.trans (hb8.mono z7)⟩
          · rw [e5] at k5
            have hgv := fa_at e5 (k := t.goal.length) (by simp)
            rw [fv_last] at hgv
            obtain ⟨xv, rfl⟩ : ∃ xv : Nat, x = (xv : Int) := ⟨x.toNat, by omega⟩
            have hxn : xv < t.vars.length := by omega
            have x0 : (0 : Int) ≤ (xv : Int) := by omega
            have x1 : (xv : Int) < (t.vars.length : Int) := by omega
            have E5 := Lib.hid e5
            clear hgv e5
            go_wp2_with fail
            refine k5.mono ?_
            rintro e w8 ⟨rfl, hb8⟩
            have hbw8 := hbw7.trans (hb8.mono z7)
            have z8 := hb8.size
            have q1 := (hb8.cell (p := ⟨bm, 0, none⟩) m0).trans m1
            have q2 := (hb8.cell (p := ⟨bm, 1, none⟩) m0).trans m2
            have q3 := (hb8.cell (p := ⟨bm, 2, none⟩) m0).trans m3
            have q4 := (hb8.cell (p := ⟨bm, 3, none⟩) m0).trans m4
            have q0 := Nat.lt_of_lt_of_le m0 hb8.size
            have f80 := (hb8.cell (p := ⟨w.heap.size + 1, 0, none⟩) (by show w.heap.size + 1 < _; omega)).trans f70
            have HR8 := Lib.hid (row_up HR7.out hb8)
            have k6 := K6.out _ A c hbw8 E5.out (hfa.up hb8)
            clear k5 m0 m1 m2 m3 m4 z0 y0 y1 y2 y3 hbm
            go_wp2_with fail
            refine k6.mono ?_
            rintro e w9 ⟨⟨g3, rfl, hr3, hg3⟩, hb9⟩
            have hbw9 := hbw8.trans (hb9.mono hbw8.size)
            have f90 := (hb9.cell (p := ⟨w.heap.size + 1, 0, none⟩) (by show w.heap.size + 1 < _; omega)).trans f80
            have HR9 := Lib.hid (row_up HR8.out hb9)
            have HR3 := Lib.hid hr3
            have r3 := hr3.cell hxn
            rw [mor_last] at r3
            have gl3 := hr3.lt
            have z9 := hb9.size
            have gf9 : w.heap.size + 1 < w9.heap.size := by omega
            clear k6 q0 q1 q2 q3 q4 f80 f70 hr3 hg3
            go_wp2
            clear f90 r3
            go_loopw [106] (fun i wr => ∃ k : Nat, k ≤ t.vars.length ∧ i = .int .i64 k ∧ Below w9.heap.size w9 wr) (fun i _ => t.vars.length - (intOf i).toNat)
            case atStart => exact ⟨0, by omega, rfl, Below.refl _ _⟩
            case round =>
              obtain ⟨k, hk, rfl, hbel⟩ := hrel
              have bz := hbel.size
              by_cases hlt : k < t.vars.length
              · have d1 := (row_up HR9.out hbel).cell hlt
                have d2 := (row_up HR3.out hbel).cell hlt
                have v0 : (0 : Int) ≤ (k : Int) := by omega
                have v1 : (k : Int) < (t.vars.length : Int) := by omega
                cases e6 : relB t k
                · rw [e6] at d1
                  go_wp2
                  go_roundw
                  case rel => exact ⟨k + 1, by omega, by go_num, hbel⟩
                  case measure => simp [intOf]; omega
                · rw [e6] at d1
                  rw [mor_relB e6] at d2
                  go_wp2
                  go_roundw
                  case rel => exact ⟨k + 1, by omega, by go_num, hbel⟩
                  case measure => simp [intOf]; omega
              · go_wp2
                go_ret
                exact ⟨rfl, hbw9.trans (hbel.mono hbw9.size)⟩

end Go.Proofs.Ytdkighaddldmcaa

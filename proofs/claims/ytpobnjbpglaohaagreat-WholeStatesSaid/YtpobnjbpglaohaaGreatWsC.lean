/- pqueue: New, Len, Push, Peek, Pop, walked. -/
import Derived.Test.YtpobnjbpglaohaaGreatWgA
import Derived.Test.YtpobnjbpglaohaaGreatWsB
namespace Go.Proofs.YtpobnjbpglaohaaGreat
set_option linter.unusedSimpArgs false
set_option linter.unusedVariables false
open Go Go.RowKit
set_option linter.unusedVariables false

theorem qundQe : Tryz.prog.underlying 157 = some (.slice 161) := by kernel_rfl
theorem qinfQe : (Tryz.prog.info? 161).map (fun i => (i.zero, i.size, i.bytes)) = some (some (.agg #[.int .i64 0, .int .i64 0, .int .i64 0, .int .i64 0]), 4, 32) := by kernel_rfl
theorem own_take {w : World} {B s n m cap g : Nat} {e : TypeId} {xs : List Value} (h : w.ownsRow B e s (.slice (some ⟨g, 0, none⟩) n cap) n xs) (hm : m ≤ n) : w.ownsRow B e s (.slice (some ⟨g, 0, none⟩) m cap) m (xs.take (m * s)) := by
  have hms : m * s ≤ n * s := Nat.mul_le_mul_right s hm
  rcases h.2 with ⟨h0, _⟩ | ⟨b, cap', cur, h1, hb, hg, hnc, hcm, hcs, htk⟩
  · cases h0
  · injection h1 with h1 h2 h3
    injection h1 with h1
    injection h1 with h1 _ _
    subst h1 h3
    refine ⟨by rw [List.length_take, h.1]; omega, .inr ⟨g, cap, cur, rfl, hb, hg, by omega, hcm, hcs, ?_⟩⟩
    rw [← htk, List.take_take]
    congr 1
    omega
theorem qeC_take : ∀ (es : List QE) (m : Nat), qeC (es.take m) = (qeC es).take (m * 4)
  | [], m => by simp [qeC]
  | e :: r, 0 => by simp [qeC]
  | e :: r, m + 1 => by
    rw [List.take_succ_cons, qeC_cons, qeC_cons, qeC_take r m, show (m + 1) * 4 = m * 4 + 1 + 1 + 1 + 1 by omega]
    rfl
theorem QuAt.cut {w : World} {base Q N HC g : Nat} {nx : Int} {es : List QE} (h : QuAt w base Q N (some ⟨g, 0, none⟩) HC nx es) {m : Nat} (hm : m ≤ es.length) : QuAt (w.setCell ⟨Q, 0, none⟩ (.slice (some ⟨g, 0, none⟩) m HC)) base Q N (some ⟨g, 0, none⟩) HC nx (es.take m) := by
  have hl : (es.take m).length = m := by rw [List.length_take]; omega
  refine { box := by rw [hl]; exact h.box.set 0 _, own := ?_, ge := h.ge, lt := fun e he => h.lt e (List.mem_of_mem_take he), few := by rw [hl]; have := h.few; omega }
  rw [hl, qeC_take]
  exact own_kb1 (own_take h.own hm) (kb_set (p := ⟨Q, 0, none⟩) _) (fun b hb e => h.qne (g := b) hb e.symm)

set_option maxHeartbeats 2000000 in
theorem qnew_any (w : World) : Calls Tryz.prog 62 #[] w fun e w' => (∃ Q, e = .returned (.pointer (some ⟨Q, 0, none⟩)) ∧ ∀ N, QuAt w' w.heap.size Q N none 0 0 []) ∧ Below w.heap.size w w' := by
  go_enter Tryz.func62, Tryz.ntmps62
  go_wp2
  refine bodyPost_ret (v := .pointer (some ⟨w.heap.size, 0, none⟩)) (by simp [results, Tryz.results62, go_sem, ↓IntWalk.iteOmega, *]) rfl ⟨⟨_, rfl, fun N => { box := BxI.new _ _ _, own := World.ownsRow_nil _ _ _ _, ge := Nat.le_refl _, lt := fun e he => (by cases he), few := by simp }⟩, by repeat (first | exact Below.refl _ _ | refine below_dN ?_ _ | refine Below.drew ?_ | refine Below.alloc ?_ (by first | omega | (simp; done) | (simp; omega)) _ | refine Below.setCell ?_ (by first | omega | (simp; done) | (simp; omega)) _ | refine below_step (by assumption) (by first | omega | (simp; done) | (simp; omega)) ?_)⟩
set_option maxHeartbeats 2000000 in
theorem qlen_any {w : World} {base Q N HC : Nat} {HA : Option Addr} {nx : Int} {es : List QE} (h : QuAt w base Q N HA HC nx es) : Calls Tryz.prog 64 #[.pointer (some ⟨Q, 0, none⟩)] w fun e w' => e = .returned (.int .i64 (es.length : Nat)) ∧ Below w.heap.size w w' := by
  have x0 := h.box.cell 0 _ rfl
  clear h
  go_enter Tryz.func64, Tryz.ntmps64
  go_wp2
  refine bodyPost_ret (v := .int .i64 (es.length : Nat)) (by simp [results, Tryz.results64, go_sem, ↓IntWalk.iteOmega, *]) rfl ⟨rfl, by repeat (first | exact Below.refl _ _ | refine below_dN ?_ _ | refine Below.drew ?_ | refine Below.alloc ?_ (by first | omega | (simp; done) | (simp; omega)) _ | refine Below.setCell ?_ (by first | omega | (simp; done) | (simp; omega)) _ | refine below_step (by assumption) (by first | omega | (simp; done) | (simp; omega)) ?_)⟩
/-- A queue of this length. -/
def QuL (w : World) (base Q N n : Nat) : Prop := ∃ HA HC nx es, es.length = n ∧ QuAt w base Q N HA HC nx es
theorem QuL.up {w w' : World} {base Q N n : Nat} (h : QuL w base Q N n) (k : Below w.heap.size w w') : QuL w' base Q N n := by
  obtain ⟨HA, HC, nx, es, h1, h2⟩ := h
  exact ⟨HA, HC, nx, es, h1, h2.up k⟩
set_option maxHeartbeats 2000000 in
theorem qfull_any {w : World} {base Q N n : Nat} (h : QuL w base Q N n) (key tie : Int) (item : Nat) (hn : 65536 ≤ n) :
    Calls Tryz.prog 63 #[.pointer (some ⟨Q, 0, none⟩), .int .i64 key, .int .i64 tie, .int .i64 item] w fun e w' => e = .returned (.iface 72 (.int .i64 10)) ∧ Below w.heap.size w w' := by
  obtain ⟨HA, HC, nx, es, rfl, h⟩ := h
  have x0 := h.box.cell 0 _ rfl
  have hf := h.few
  have hd : decide ((65536 : Int) ≤ (es.length : Int)) = true := decide_eq_true (by omega)
  clear h
  go_enter Tryz.func63, Tryz.ntmps63
  go_wp2
  refine bodyPost_ret (v := .iface 72 (.int .i64 10)) (by simp [results, Tryz.results63, go_sem, ↓IntWalk.iteOmega, *]) rfl ⟨rfl, by repeat (first | exact Below.refl _ _ | refine below_dN ?_ _ | refine Below.drew ?_ | refine Below.alloc ?_ (by first | omega | (simp; done) | (simp; omega)) _ | refine Below.setCell ?_ (by first | omega | (simp; done) | (simp; omega)) _ | refine below_step (by assumption) (by first | omega | (simp; done) | (simp; omega)) ?_)⟩
set_option maxRecDepth 20000 in
set_option maxHeartbeats 8000000 in
theorem qpush_any {w : World} {base Q N n : Nat} (h : QuL w base Q N n) (hb : base ≤ w.heap.size) (key tie : Int) (item : Nat) (hi : item < N) (hn : n < 65536) :
    Calls Tryz.prog 63 #[.pointer (some ⟨Q, 0, none⟩), .int .i64 key, .int .i64 tie, .int .i64 item] w fun e w' => (e = .returned .nilIface ∧ QuL w' base Q N (n + 1)) ∧ Below base w w' := by
  obtain ⟨iq, qq1, qq2, qq3, qq4⟩ := info_parts qinfQe
  obtain ⟨HA, HC, nx, es, hl, h⟩ := h
  have HQ := Lib.hid h
  have HL := Lib.hid hl
  have HS := Lib.hid (show ∀ w' : World, Below w.heap.size w w' → w'.cell? ⟨Q, 0, none⟩ = some (.slice HA n HC) ∧ w'.cell? ⟨Q, 1, none⟩ = some (.int .i64 nx) from fun w' k => ⟨by rw [← hl]; exact (h.box.up k).cell 0 _ rfl, (h.box.up k).cell 1 _ rfl⟩)
  have hQlt := h.box.lt
  have hQge := h.ge
  have x0 := (HS.out w (Below.refl _ _)).1
  have hd : decide ((65536 : Int) ≤ (n : Int)) = false := decide_eq_false (by omega)
  have HOW := Lib.hid (hl ▸ h.own)
  have HOL := Lib.hid (show ∀ b, (Value.slice HA n HC).ownBlock = some b → Q ≠ b from fun b hb => h.qne (by rw [hl]; exact hb))
  clear h hl
  go_enter Tryz.func63, Tryz.ntmps63
  go_upto_region 5 with fail
  clear x0 hd
  refine wp_region_G 14 (fun w' => w'.cell? ⟨Q, 0, none⟩ = some (.slice HA n HC) ∧ w'.cell? ⟨Q, 1, none⟩ = some (.int .i64 nx)) (by kernel_rfl) (HS.out _ (by repeat (first | exact Below.refl _ _ | refine below_dN ?_ _ | refine Below.drew ?_ | refine Below.alloc ?_ (by first | omega | (simp; done) | (simp; omega)) _ | refine Below.setCell ?_ (by first | omega | (simp; done) | (simp; omega)) _ | refine below_step (by assumption) (by first | omega | (simp; done) | (simp; omega)) ?_))) ?_
  intro hG0
  refine wpS1 0 hG0 ?_; intro hG1; clear hG0
  refine wpS1 1 hG1 ?_; intro hG2; clear hG1
  refine wpS1 2 hG2 ?_; intro hG3; clear hG2
  refine wpS1 3 hG3 ?_; intro hG4; clear hG3
  refine wpS2 4 hG4 ?_; intro hG5; clear hG4
  refine wpS1 5 hG5 ?_; intro hG6; clear hG5
  refine wpS1 6 hG6 ?_; intro hG7; clear hG6
  refine wpS1 7 hG7 ?_; intro hG8; clear hG7
  refine wpS1 8 hG8 ?_; intro hG9; clear hG8
  refine wpS1 9 hG9 ?_; intro hG10; clear hG9
  refine wpS1 10 hG10 ?_; intro hG11; clear hG10
  refine wpS2 11 hG11 ?_; intro hG12; clear hG11
  refine wpS1 12 hG12 ?_; intro hG13; clear hG12
  refine wpAnyG_ready (rs := [13]) (by kernel_rfl) (by simp) (AllG.cons rfl hG13 (fun K hK => ?_) AllG.nil)
  (go_simp)
  refine hK.out _ _ (Or.inr (HS.out _ (by repeat (first | exact Below.refl _ _ | refine below_dN ?_ _ | refine Below.drew ?_ | refine Below.alloc ?_ (by first | omega | (simp; done) | (simp; omega)) _ | refine Below.setCell ?_ (by first | omega | (simp; done) | (simp; omega)) _ | refine below_step (by assumption) (by first | omega | (simp; done) | (simp; omega)) ?_)))) (fun hG14 => wpN ?_); clear hK hG13
  refine wpAnyG_ready (rs := [14]) (by kernel_rfl) (by simp) (AllG.cons rfl hG14 (fun K hK => ?_) AllG.nil)
  (refine step_append_src (by rfl) _ _ 157 (by rfl) base 161 iq (.agg #[.int .i64 0, .int .i64 0, .int .i64 0, .int .i64 0]) 4 32 qundQe qq1 qq2 qq3 qq4 rfl (by decide) (.slice HA n HC) n (qeC es) (by rfl) (by exact HOW.out.alloc _) (some ⟨w.heap.size, 0, none⟩) 1 1 [.int .i64 key, .int .i64 tie, .int .i64 item, .int .i64 nx] (by rfl) (src_of (heap_alloc_new w _) rfl (four_one rfl rfl rfl rfl)) (by unfold maxLen; omega) (by omega) (by first | omega | (simp; done) | (simp; omega)) ?_; intro v9 w9 hown9 hgrow9 hat9; obtain ⟨A9, c9, rfl⟩ := own_shape hown9; have HO9 := Lib.hid hown9; have HG9 := Lib.hid hgrow9; have HX9 := Lib.hid (((HQ.out.box).up (show Below w.heap.size w _ by repeat (first | exact Below.refl _ _ | refine below_dN ?_ _ | refine Below.drew ?_ | refine Below.alloc ?_ (by first | omega | (simp; done) | (simp; omega)) _ | refine Below.setCell ?_ (by first | omega | (simp; done) | (simp; omega)) _ | refine below_step (by assumption) (by first | omega | (simp; done) | (simp; omega)) ?_))).grown hgrow9 (fun e => HOL.out Q e.symm rfl)); clear hown9 hgrow9 hat9)
  refine hK.out _ _ (Or.inl rfl) (fun hG15 => wpN ?_); clear hK hG14
  refine wpS1 15 hG15 ?_; intro hG16; clear hG15
  refine wpS1 16 hG16 ?_; intro hG17; clear hG16
  refine wpAnyG_ready (rs := [17]) (by kernel_rfl) (by simp) (AllG.cons rfl hG17 (fun K hK => ?_) AllG.nil)
  (refine step_store1 (by rfl) 157 _ _ (by rfl) Q 0 (.slice A9 (n + 1) c9) rfl (by rfl) (by rfl) (there_blk HX9.out (by simp)) (by kernel_rfl) rfl ?_; intro wA HWA)
  refine hK.out _ _ (Or.inl rfl) (fun hG18 => wpN ?_); clear hK hG17
  refine wpAnyG_done (by kernel_rfl) ?_ _; clear hG18
  have HXA := Lib.hid (HX9.out.set 0 (.slice A9 (n + 1) c9))
  rw [← HWA.out] at HXA
  have KA := kb_set (w := w9) (p := ⟨Q, 0, none⟩) (.slice A9 (n + 1) c9)
  rw [← HWA.out] at KA
  have hqg : ∀ b, (Value.slice A9 (n + 1) c9).ownBlock = some b → ¬ b = Q := own_ne_box HO9.out HX9.out (by decide)
  have HOA := Lib.hid (own_kb1 HO9.out KA (fun b hb e => hqg b hb e))
  have HQG := Lib.hid hqg
  have HBA := Lib.hid (show Below base w wA from below_then (below_then ((Below.refl base w).alloc hb _) (kb_grown (show (w.alloc _).grownBy w9 _ from ⟨HG9.out.os, HG9.out.tape, HG9.out.output, HG9.out.size, HG9.out.block⟩)) (fun b h1 h2 => by have := (HOW.out.lt b h2).1; omega) (by simp; omega)) KA (fun b h1 h2 => by have h2 : b = Q := h2; omega) (by have := HG9.out.size; simp at this; omega))
  have y1 := HXA.out.cell 1 _ rfl
  have hzA := HBA.out.size
  have hQltA := HXA.out.lt
  clear KA hqg
  obtain ⟨m1, hm1⟩ : ∃ m, IntKind.i64.wrap (nx + 1) = m := ⟨_, rfl⟩
  go_wp2_with (refine wpList_store1 (by rfl) 3 _ _ (by rfl) Q 1 (.int .i64 m1) (by rfl) (by rfl) (by rfl) (there_blk HXA.out (by simp)) (by kernel_rfl) rfl ?_; intro wB HWB; have HXB := Lib.hid (HXA.out.set 1 (.int .i64 m1)); rw [← HWB.out] at HXB; have z0 := HXB.out.cell 0 _ rfl; have hQltB := HXB.out.lt)
  have KB := kb_set (w := wA) (p := ⟨Q, 1, none⟩) (.int .i64 m1)
  rw [← HWB.out] at KB
  have HBB := Lib.hid (below_then HBA.out KB (fun b h1 h2 => by have h2 : b = Q := h2; omega) (by omega))
  have hell : (es ++ [(⟨key, tie, item, nx⟩ : QE)]).length = n + 1 := by rw [List.length_append, HL.out]; rfl
  have HQB := Lib.hid (show QuAt wB base Q N A9 c9 m1 (es ++ [(⟨key, tie, item, nx⟩ : QE)]) from
    { box := by rw [hell]; exact HXB.out, own := by rw [hell, qeC_app]; exact own_kb1 HOA.out KB (fun b h1 h2 => HQG.out b h1 h2), ge := hQge, few := by rw [hell]; omega, lt := fun e he => by
        rcases List.mem_append.1 he with h1 | h1
        · exact HQ.out.lt e h1
        · simp only [List.mem_singleton] at h1; subst h1; show 0 ≤ (item : Int) ∧ (item : Int) < (N : Int); omega })
  have hzB := HBB.out.size
  have KU := Lib.hid (qup_any HQB.out (by omega) n (by rw [hell]; omega))
  clear KB z0 y1 hell hm1
  refine KU.out.mono ?_
  rintro e w7 ⟨⟨rfl, es', hl', hq'⟩, hb7⟩
  have HQ7 := Lib.hid hq'
  have HL7 := Lib.hid hl'
  have HB7 := Lib.hid (HBB.out.trans hb7)
  clear hq' hl' hb7 KU
  dsimp only
  go_wp2_with fail
  refine bodyPost_ret (v := .nilIface) (by simp [results, Tryz.results63, go_sem, ↓IntWalk.iteOmega, *]) rfl ⟨⟨rfl, A9, c9, m1, es', by rw [HL7.out, List.length_append, HL.out]; rfl, HQ7.out⟩, HB7.out⟩

set_option maxRecDepth 20000 in
set_option maxHeartbeats 4000000 in
theorem qpeek_any {w : World} {base Q N HC g : Nat} {nx : Int} {es : List QE} (h : QuAt w base Q N (some ⟨g, 0, none⟩) HC nx es) (h0 : 0 < es.length) :
    Calls Tryz.prog 73 #[.pointer (some ⟨Q, 0, none⟩)] w fun e w' => e = .returned (.tuple #[.int .i64 (qe es 0).key, .int .i64 (qe es 0).tie, .int .i64 (qe es 0).item, .nilIface]) ∧ Below w.heap.size w w' := by
  obtain ⟨x, hx⟩ : ∃ x, x = qe es 0 := ⟨_, rfl⟩
  have hr := h.reads h0 (Below.refl _ _)
  rw [← hx] at hr
  rw [← hx]
  obtain ⟨a0, a1, a2, a3⟩ := x
  obtain ⟨r0, r1, r2, r3⟩ := hr
  dsimp only at r0 r1 r2 r3
  rw [Nat.zero_mul] at r0 r1 r2 r3
  rw [Nat.zero_add] at r1 r2 r3
  have x0 := h.box.cell 0 _ rfl
  have hcap := h.cap
  have hd0 : ((es.length : Int) == 0) = false := by rw [beq_eq_false_iff_ne]; omega
  obtain ⟨n, hn⟩ : ∃ n, n = es.length := ⟨_, rfl⟩
  rw [← hn] at x0 hcap hd0 h0
  dsimp only
  clear h hx hn
  go_enter Tryz.func73, Tryz.ntmps73
  go_wp2_with fail
  go_quiet (fail)
  go_wp2_with fail
  refine bodyPost_ret (v := .tuple #[.int .i64 a0, .int .i64 a1, .int .i64 a2, .nilIface]) (by simp [results, Tryz.results73, go_sem, ↓IntWalk.iteOmega, *]) rfl ⟨rfl, by repeat (first | exact Below.refl _ _ | refine below_dN ?_ _ | refine Below.drew ?_ | refine Below.alloc ?_ (by first | omega | (simp; done) | (simp; omega)) _ | refine Below.setCell ?_ (by first | omega | (simp; done) | (simp; omega)) _ | refine below_step (by assumption) (by first | omega | (simp; done) | (simp; omega)) ?_)⟩

set_option maxRecDepth 20000 in
set_option maxHeartbeats 8000000 in
theorem qpop_any {w : World} {base Q N n : Nat} (h : QuL w base Q N (n + 1)) (hb : base ≤ w.heap.size) :
    Calls Tryz.prog 65 #[.pointer (some ⟨Q, 0, none⟩)] w fun e w' => (∃ (key tie : Int) (item : Nat), e = .returned (.tuple #[.int .i64 key, .int .i64 tie, .int .i64 item, .nilIface]) ∧ item < N ∧ QuL w' base Q N n) ∧ Below base w w' := by
  obtain ⟨HA, HC, nx, es, hl, h⟩ := h
  obtain ⟨g, rfl, hg1, hg2⟩ := h.adr (by omega)
  have KP := Lib.hid (fun W (k : Below w.heap.size w W) => qpeek_any (h.up k) (by omega))
  have hlt := h.lt _ (qe_mem (show 0 < es.length by omega))
  obtain ⟨item, hit⟩ : ∃ item : Nat, (qe es 0).item = (item : Int) := ⟨(qe es 0).item.toNat, by omega⟩
  have hiN : item < N := by omega
  obtain ⟨a0, ha0⟩ : ∃ a, a = (qe es 0).key := ⟨_, rfl⟩
  obtain ⟨a1, ha1⟩ : ∃ a, a = (qe es 0).tie := ⟨_, rfl⟩
  rw [hit, ← ha0, ← ha1] at KP
  obtain ⟨y, hy⟩ : ∃ y, y = qe es n := ⟨_, rfl⟩
  have HYL := Lib.hid (show 0 ≤ y.item ∧ y.item < (N : Int) by rw [hy]; exact h.lt _ (qe_mem (by omega)))
  have HS := Lib.hid (show ∀ w' : World, Below w.heap.size w w' → w'.cell? ⟨Q, 0, none⟩ = some (.slice (some ⟨g, 0, none⟩) (n + 1) HC) ∧ (w'.cell? ⟨g, n * 4, none⟩ = some (.int .i64 y.key) ∧ w'.cell? ⟨g, n * 4 + 1, none⟩ = some (.int .i64 y.tie) ∧ w'.cell? ⟨g, n * 4 + 2, none⟩ = some (.int .i64 y.item) ∧ w'.cell? ⟨g, n * 4 + 3, none⟩ = some (.int .i64 y.num)) from fun w' k => ⟨by have := (h.box.up k).cell 0 _ rfl; rw [hl] at this; exact this, by rw [hy]; exact h.reads (by omega) k⟩)
  have HQ := Lib.hid h
  have HL := Lib.hid hl
  have hcap : n + 1 ≤ HC := by have := h.cap; omega
  have hfew : n + 1 ≤ 65536 := by have := h.few; omega
  have hQlt := h.box.lt
  clear h hl hlt hit ha0 ha1 hy
  go_enter Tryz.func65, Tryz.ntmps65
  go_wp2_with fail
  refine (KP.out _ (by repeat (first | exact Below.refl _ _ | refine below_dN ?_ _ | refine Below.drew ?_ | refine Below.alloc ?_ (by first | omega | (simp; done) | (simp; omega)) _ | refine Below.setCell ?_ (by first | omega | (simp; done) | (simp; omega)) _ | refine below_step (by assumption) (by first | omega | (simp; done) | (simp; omega)) ?_))).mono ?_
  rintro e w1 ⟨rfl, hb1⟩
  have HB1 := Lib.hid (show Below w.heap.size w w1 from below_step hb1 (show w.heap.size ≤ _ by simp) (show Below w.heap.size w _ by repeat (first | exact Below.refl _ _ | refine below_dN ?_ _ | refine Below.drew ?_ | refine Below.alloc ?_ (by first | omega | (simp; done) | (simp; omega)) _ | refine Below.setCell ?_ (by first | omega | (simp; done) | (simp; omega)) _ | refine below_step (by assumption) (by first | omega | (simp; done) | (simp; omega)) ?_)))
  have hz1 := HB1.out.size
  have x0 := (HS.out w1 HB1.out).1
  clear hb1
  go_wp2_with fail
  clear x0
  have HQ1 := Lib.hid (HQ.out.up HB1.out)
  have HS1 := Lib.hid (fun (w' : World) (k : Below w1.heap.size w1 w') => HS.out w' (HB1.out.trans (k.mono hz1)))
  refine wp_region_G 12 (fun w' => w'.cell? ⟨Q, 0, none⟩ = some (.slice (some ⟨g, 0, none⟩) (n + 1) HC) ∧ (w'.cell? ⟨g, n * 4, none⟩ = some (.int .i64 y.key) ∧ w'.cell? ⟨g, n * 4 + 1, none⟩ = some (.int .i64 y.tie) ∧ w'.cell? ⟨g, n * 4 + 2, none⟩ = some (.int .i64 y.item) ∧ w'.cell? ⟨g, n * 4 + 3, none⟩ = some (.int .i64 y.num))) (by kernel_rfl) (HS1.out _ (by repeat (first | exact Below.refl _ _ | refine below_dN ?_ _ | refine Below.drew ?_ | refine Below.alloc ?_ (by first | omega | (simp; done) | (simp; omega)) _ | refine Below.setCell ?_ (by first | omega | (simp; done) | (simp; omega)) _ | refine below_step (by assumption) (by first | omega | (simp; done) | (simp; omega)) ?_))) ?_
  intro hG0
  refine wpS1 0 hG0 ?_; intro hG1; clear hG0
  refine wpS1 1 hG1 ?_; intro hG2; clear hG1
  refine wpS1 2 hG2 ?_; intro hG3; clear hG2
  refine wpS2 3 hG3 ?_; intro hG4; clear hG3
  refine wpS1 4 hG4 ?_; intro hG5; clear hG4
  refine wpS1 5 hG5 ?_; intro hG6; clear hG5
  refine wpS1 6 hG6 ?_; intro hG7; clear hG6
  refine wpS2 7 hG7 ?_; intro hG8; clear hG7
  refine wpS1 8 hG8 ?_; intro hG9; clear hG8
  refine wpS1 9 hG9 ?_; intro hG10; clear hG9
  refine wpS2 10 hG10 ?_; intro hG11; clear hG10
  refine wpS1 11 hG11 ?_; intro hG12; clear hG11
  refine wpAnyG_ready (rs := [12]) (by kernel_rfl) (by simp) (AllG.cons rfl hG12 (fun K hK => ?_) AllG.nil)
  (refine step_stores (by rfl) 161 _ _ (by rfl) g 0 [.int .i64 y.key, .int .i64 y.tie, .int .i64 y.item, .int .i64 y.num] (by rfl) (by rfl) (there_own (HQ1.out.up (by repeat (first | exact Below.refl _ _ | refine below_dN ?_ _ | refine Below.drew ?_ | refine Below.alloc ?_ (by first | omega | (simp; done) | (simp; omega)) _ | refine Below.setCell ?_ (by first | omega | (simp; done) | (simp; omega)) _ | refine below_step (by assumption) (by first | omega | (simp; done) | (simp; omega)) ?_))).own (by simp; have := HL.out; omega)) (by kernel_rfl) (four_v rfl rfl rfl rfl) ?_; intro wA HWA; have HQA := (HQ1.out.up (show Below w1.heap.size w1 w1.drew by repeat (first | exact Below.refl _ _ | refine below_dN ?_ _ | refine Below.drew ?_ | refine Below.alloc ?_ (by first | omega | (simp; done) | (simp; omega)) _ | refine Below.setCell ?_ (by first | omega | (simp; done) | (simp; omega)) _ | refine below_step (by assumption) (by first | omega | (simp; done) | (simp; omega)) ?_))).put (i := 0) (by rw [HL.out]; omega) y HYL.out; rw [Nat.zero_mul, ← HWA.out] at HQA; have HQA := Lib.hid HQA)
  refine hK.out _ _ (Or.inl rfl) (fun hG13 => wpN ?_); clear hK hG12
  refine wpAnyG_done (by kernel_rfl) ?_ _; clear hG13
  have hsA : (es.set 0 y).length = n + 1 := by rw [List.length_set]; exact HL.out
  have HXA := Lib.hid (hsA ▸ HQA.out.1.box)
  have x0 := HXA.out.cell 0 _ rfl
  have hQltA := HXA.out.lt
  have hzA := HQA.out.2.size
  go_wp2_with (refine wpList_store1 (by rfl) 157 _ _ (by rfl) Q 0 (.slice (some ⟨g, 0, none⟩) n HC) (by rfl) (by rfl) (by rfl) (there_blk HXA.out (by simp)) (by kernel_rfl) rfl ?_; intro wB HWB)
  have HQB := HQA.out.1.cut (m := n) (by rw [hsA]; omega)
  rw [← HWB.out] at HQB
  have hsB : ((es.set 0 y).take n).length = n := by rw [List.length_take, hsA]; omega
  have HSB := Lib.hid hsB
  have HQBH := Lib.hid HQB
  have HBB := Lib.hid (show Below base w wB from by
    rw [HWB.out]
    exact (((HB1.out.mono hb).trans ((Below.refl base w1).drew)).trans HQA.out.2).setCell (p := ⟨Q, 0, none⟩) HQA.out.1.ge _)
  have hzB := HBB.out.size
  have KD := Lib.hid (qdown_any HQB (by omega))
  clear HQB hsA hsB x0
  refine KD.out.mono ?_
  rintro e w7 ⟨⟨rfl, es', hl', hq'⟩, hb7⟩
  have HQ7 := Lib.hid hq'
  have HL7 := Lib.hid hl'
  have HB7 := Lib.hid (HBB.out.trans hb7)
  clear hq' hl' hb7 KD
  dsimp only
  go_wp2_with fail
  refine bodyPost_ret (v := .tuple #[.int .i64 a0, .int .i64 a1, .int .i64 item, .nilIface]) (by simp [results, Tryz.results65, go_sem, ↓IntWalk.iteOmega, *]) rfl ⟨⟨a0, a1, item, rfl, hiN, some ⟨g, 0, none⟩, HC, nx, es', by rw [HL7.out, HSB.out], HQ7.out⟩, HB7.out⟩
end Go.Proofs.YtpobnjbpglaohaaGreat

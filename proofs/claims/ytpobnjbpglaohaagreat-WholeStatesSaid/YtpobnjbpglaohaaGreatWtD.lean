/- explore: measure, walked. -/
import Derived.Test.YtpobnjbpglaohaaGreatWgA
import Derived.Test.YtpobnjbpglaohaaGreatWtC
import Derived.Test.YtpobnjbpglaohaaGreatWrE
namespace Go.Proofs.YtpobnjbpglaohaaGreat
set_option linter.unusedSimpArgs false
set_option linter.unusedVariables false
open Go Go.RowKit Go.Maps
set_option linter.unusedVariables false

def edC (l : List (Nat × Nat × Nat)) : List Value := l.flatMap fun a => [.int .i64 (a.1 : Int), .int .i64 (a.2.1 : Int), .int .i64 (a.2.2 : Int)]
theorem edC_app (a b : List (Nat × Nat × Nat)) : edC (a ++ b) = edC a ++ edC b := by unfold edC; rw [List.flatMap_append]
def edN (l : List (Nat × Nat × Nat)) (k : Nat) : Nat × Nat × Nat := l.getD k (0, 0, 0)
theorem edN_mem {l : List (Nat × Nat × Nat)} {k : Nat} (h : k < l.length) : edN l k ∈ l := by unfold edN; simp [List.getD, h]
theorem edC_get : ∀ (l : List (Nat × Nat × Nat)) (k : Nat), k < l.length → (edC l)[k * 3]? = some (.int .i64 ((edN l k).1 : Int)) ∧ (edC l)[k * 3 + 1]? = some (.int .i64 ((edN l k).2.1 : Int)) ∧ (edC l)[k * 3 + 2]? = some (.int .i64 ((edN l k).2.2 : Int))
  | f :: l, 0, _ => ⟨rfl, rfl, rfl⟩
  | f :: l, k + 1, h => by
    obtain ⟨h1, h2, h3⟩ := edC_get l k (by simp at h; omega)
    have e : edC (f :: l) = .int .i64 (f.1 : Int) :: .int .i64 (f.2.1 : Int) :: .int .i64 (f.2.2 : Int) :: edC l := rfl
    rw [e, show (k + 1) * 3 = k * 3 + 1 + 1 + 1 by omega]
    exact ⟨h1, h2, h3⟩
def arC (l : List (Int × Nat × Int)) : List Value := l.flatMap fun a => [.int .i64 a.1, .int .i64 (a.2.1 : Int), .int .i64 a.2.2]
theorem arC_app (a b : List (Int × Nat × Int)) : arC (a ++ b) = arC a ++ arC b := by unfold arC; rw [List.flatMap_append]
def arN (l : List (Int × Nat × Int)) (k : Nat) : Int × Nat × Int := l.getD k (0, 0, 0)
theorem arC_get : ∀ (l : List (Int × Nat × Int)) (k : Nat), k < l.length → (arC l)[k * 3]? = some (.int .i64 (arN l k).1) ∧ (arC l)[k * 3 + 1]? = some (.int .i64 ((arN l k).2.1 : Int)) ∧ (arC l)[k * 3 + 2]? = some (.int .i64 (arN l k).2.2)
  | f :: l, 0, _ => ⟨rfl, rfl, rfl⟩
  | f :: l, k + 1, h => by
    obtain ⟨h1, h2, h3⟩ := arC_get l k (by simp at h; omega)
    have e : arC (f :: l) = .int .i64 f.1 :: .int .i64 (f.2.1 : Int) :: .int .i64 f.2.2 :: arC l := rfl
    rw [e, show (k + 1) * 3 = k * 3 + 1 + 1 + 1 by omega]
    exact ⟨h1, h2, h3⟩
def ArcOk (n : Nat) (l : List (Int × Nat × Int)) : Prop := ∀ a ∈ l, a.2.1 < n ∧ 0 ≤ a.2.2 ∧ a.2.2 ≤ 1048576
theorem arcs_of {w : World} {base N n off FB : Nat} {vs : Nat → Value} {ls : Nat → List (Int × Nat × Int)} (h : Fam w base N 119 3 vs (fun r => (ls r).length) (fun r => arC (ls r))) (hb : BxI w FB 117 (tabC n fun i => vs (off + i))) (ho : off + n ≤ N)
    (hl : ∀ r, r < N → (ls r).length ≤ 50000 ∧ ArcOk n (ls r)) : ArcsAt w w.heap.size FB n := by
  refine ⟨hb.lt, fun i hi => ⟨_, hb.cell i _ (tabC_get hi), ?_⟩⟩
  have hr := h.own (off + i) (by omega)
  obtain ⟨h1, h2⟩ := hl (off + i) (by omega)
  obtain ⟨A, c, hs⟩ := own_shape hr
  refine ⟨A, (ls (off + i)).length, c, hs, by omega, fun h0 => ?_⟩
  rw [hs] at hr
  obtain ⟨g, rfl, hg1, hg2, _⟩ := own_frozen' hr h0
  refine ⟨g, 0, rfl, hg2, fun k hk => ?_⟩
  obtain ⟨a0, a1, a2⟩ := arC_get _ k hk
  have hm : arN (ls (off + i)) k ∈ ls (off + i) := by unfold arN; simp [List.getD, hk]
  exact ⟨_, _, _, by rw [Nat.zero_add]; exact own_cell hr a0, by rw [Nat.zero_add]; exact own_cell hr a1, by rw [Nat.zero_add]; exact own_cell hr a2, h2 _ hm⟩
theorem ArcsAt.mono {w : World} {B B' b n : Nat} (h : ArcsAt w B b n) (hB : B ≤ B') : ArcsAt w B' b n := ⟨Nat.lt_of_lt_of_le h.1 hB, fun i hi => by
  obtain ⟨v, h1, RA, m, RC, rfl, h2, h3⟩ := h.2 i hi
  refine ⟨_, h1, RA, m, RC, rfl, h2, fun h0 => ?_⟩
  obtain ⟨rb, off, e, hb, hc⟩ := h3 h0
  exact ⟨rb, off, e, Nat.lt_of_lt_of_le hb hB, hc⟩⟩
theorem tabC_congr {k : Nat} {vs vs' : Nat → Value} (h : ∀ i, i < k → vs i = vs' i) : tabC k vs = tabC k vs' := by
  unfold tabC
  congr 1
  exact List.map_congr_left (fun a ha => h a (List.mem_range.1 ha))
theorem make_arc (N : Nat) (hN : N ≤ 100000) (w : World) : (Instr.makeSlice 116 (.int .i64 (N : Int)) (.int .i64 (N : Int))).run Tryz.prog w = .ok (.slice (some ⟨w.heap.size, 0, none⟩) N N) (w.alloc (.cells (tabC N fun _ => .slice none 0 0) 117)) := by
  obtain ⟨i, hi, hz, hs, hb⟩ := info_parts (show (Tryz.prog.info? 117).map (fun i => (i.zero, i.size, i.bytes)) = some (some (.slice none 0 0), 1, 24) by kernel_rfl)
  have h := run_make (P := Tryz.prog) w 116 117 i _ (show Tryz.prog.underlying 116 = some (.slice 117) by kernel_rfl) hi hz .i64 .i64 (N : Int) (N : Int) (by omega) (Int.le_refl _) (by rw [hb]; omega) (by omega)
  rw [Int.toNat_natCast, hs, Nat.mul_one] at h
  rw [← tabC_nil]
  exact h
theorem qundAr : Tryz.prog.underlying 117 = some (.slice 119) := by kernel_rfl
theorem qinfAr : (Tryz.prog.info? 119).map (fun i => (i.zero, i.size, i.bytes)) = some (some (.agg #[.int .i64 0, .int .i64 0, .int .i64 0]), 3, 24) := by kernel_rfl
theorem two_ls {n k N a : Nat} {ls : Nat → List (Int × Nat × Int)} (h : ∀ r, r < N → (ls r).length ≤ k ∧ ArcOk n (ls r)) {x : Int × Nat × Int} (hx : x.2.1 < n ∧ 0 ≤ x.2.2 ∧ x.2.2 ≤ 1048576) : ∀ r, r < N → (upd ls a (ls a ++ [x]) r).length ≤ k + 1 ∧ ArcOk n (upd ls a (ls a ++ [x]) r) := fun r hr => by
  obtain ⟨h1, h2⟩ := h r hr
  by_cases e : r = a
  · subst e
    rw [upd_at]
    refine ⟨by rw [List.length_append]; simp; omega, fun y hy => ?_⟩
    rcases List.mem_append.1 hy with hy | hy
    · exact h2 y hy
    · simp only [List.mem_singleton] at hy; subst hy; exact hx
  · rw [upd_ne _ _ e]; exact ⟨by omega, h2⟩

set_option maxRecDepth 20000 in
set_option maxHeartbeats 16000000 in
theorem measure_any {w : World} {base bE bG X R q mb nw EC GC : Nat} {RE : Value} {es : Array MapEntry} {F : List Fld} {S : List (List Int)} {L : List (Int × Int × Int)} {wb : Nat → Nat} {t : Tsk} {p : Lies} {EA GA : Option Addr} {E : List (Nat × Nat × Nat)} {gs : List Bool} (hreg : RegC w base R q mb RE es F nw S L wb)
    (hX : BxI w X 76 #[.slice p.av t.vars.length p.cv, .slice p.ai t.init.length p.ci, .slice p.ag t.goal.length p.cg, .slice p.ao t.ops.length p.co, .pointer (some ⟨R, 0, none⟩), .slice EA E.length EC, .slice GA gs.length GC, .slice none 0 0, .slice none 0 0, .slice none 0 0])
    (hT : TaskAt w w.heap.size t p) (hr : Right t) (hE : w.ownsRow bE 64 3 (.slice EA E.length EC) E.length (edC E)) (hG : w.ownsRow bG 4 1 (.slice GA gs.length GC) gs.length (blC gs)) (hgl : gs.length = S.length) (hEr : ∀ e ∈ E, e.1 < S.length ∧ e.2.1 < t.ops.length ∧ e.2.2 < S.length) (hn1 : 1 ≤ S.length) (hn2 : S.length ≤ 512) (hEl : E.length ≤ 20000) :
    Calls Tryz.prog 30 #[.pointer (some ⟨X, 0, none⟩)] w fun e w' => (e = .returned (.tuple #[]) ∧ ∃ c7 c8 c9, BxI w' X 76 #[.slice p.av t.vars.length p.cv, .slice p.ai t.init.length p.ci, .slice p.ag t.goal.length p.cg, .slice p.ao t.ops.length p.co, .pointer (some ⟨R, 0, none⟩), .slice EA E.length EC, .slice GA gs.length GC, c7, c8, c9]) ∧ Kb (fun b => b = X) w w' := by
  obtain ⟨ia, ar1, ar2, ar3, ar4⟩ := info_parts qinfAr
  obtain ⟨ii, hi1, iq0, iq1, iq2⟩ := info_parts infoI
  have KL := Lib.hid (fun W (k : Below w.heap.size w W) => rlen_any (hreg.keep (Kb.of_below (bad := fun _ => False) k) (fun _ hc => hc.elim) (fun _ hc => hc.elim) (fun _ hc => hc.elim)))
  obtain ⟨n, hn⟩ : ∃ n, n = S.length := ⟨_, rfl⟩
  rw [← hn] at KL hgl hEr hn1 hn2
  have HX := Lib.hid hX
  have HT := Lib.hid hT
  have HR := Lib.hid hr
  have HE := Lib.hid hE
  have HG := Lib.hid hG
  have HER := Lib.hid hEr
  have hxl := hX.lt
  have x4 := hX.cell 4 _ rfl
  obtain ⟨el, hel⟩ : ∃ x, x = E.length := ⟨_, rfl⟩
  obtain ⟨gl, hgl2⟩ : ∃ x, x = gs.length := ⟨_, rfl⟩
  have HEL := Lib.hid hel
  have HGL := Lib.hid hgl2
  have hgn : gl = n := by omega
  have helb : el ≤ 20000 := by omega
  clear hreg hX hT hr hE hG hEr hn hgl hEl hel hgl2
  go_enter Tryz.func30, Tryz.ntmps30
  go_wp2_with fail
  refine (KL.out _ (by repeat (first | exact Below.refl _ _ | refine below_dN ?_ _ | refine Below.drew ?_ | refine Below.alloc ?_ (by first | omega | (simp; done) | (simp; omega)) _ | refine Below.setCell ?_ (by first | omega | (simp; done) | (simp; omega)) _ | refine below_step (by assumption) (by first | omega | (simp; done) | (simp; omega)) ?_))).mono ?_
  rintro e w0 ⟨rfl, hb0⟩
  have HB0 := Lib.hid (show Below w.heap.size w w0 from below_step hb0 (show w.heap.size ≤ _ by simp) (show Below w.heap.size w _ by repeat (first | exact Below.refl _ _ | refine below_dN ?_ _ | refine Below.drew ?_ | refine Below.alloc ?_ (by first | omega | (simp; done) | (simp; omega)) _ | refine Below.setCell ?_ (by first | omega | (simp; done) | (simp; omega)) _ | refine below_step (by assumption) (by first | omega | (simp; done) | (simp; omega)) ?_)))
  have hz0 := HB0.out.size
  clear hb0 x4
  go_wp2_with fail
  go_cut [3, 4] (fun v3 v4 wx => ∃ FB BB, v3 = .slice (some ⟨FB, 0, none⟩) n n ∧ v4 = .slice (some ⟨BB, 0, none⟩) n n ∧ FB ≠ BB ∧ w.heap.size ≤ FB ∧ w.heap.size ≤ BB ∧ Hid (BxI wx FB 117 (tabC n fun _ => .slice none 0 0)) ∧ Hid (BxI wx BB 117 (tabC n fun _ => .slice none 0 0)) ∧ Hid (Below w.heap.size w wx))
  case first =>
    refine wp_region_G 1 (fun _ => True) (by kernel_rfl) (trivial) ?_
    intro hG0
    refine wpS1 0 hG0 ?_; intro hG1; clear hG0
    refine wpS1 2 hG1 ?_; intro hG2; clear hG1
    refine wpAnyG_ready (rs := [1, 3]) (by kernel_rfl) (by simp) (AllG.cons rfl hG2 (fun K hK => ?_) (AllG.cons rfl hG2 (fun K hK => ?_) AllG.nil))
    (have hl := make_arc n (by omega) w0.drew; go_simp; clear hl)
    refine hK.out _ _ (Or.inl rfl) (fun hG3 => wpN ?_); clear hK hG2
    refine wpS1 4 hG3 ?_; intro hG4; clear hG3
    refine wpAnyG_ready (rs := [3]) (by kernel_rfl) (by simp) (AllG.cons rfl hG4 (fun K hK => ?_) AllG.nil)
    (have hl := make_arc n (by omega) (w0.alloc (.cells (tabC n fun _ => .slice none 0 0) 117)).drew; go_simp; clear hl)
    refine hK.out _ _ (Or.inl rfl) (fun hG5 => wpN ?_); clear hK hG4
    refine wpS1 5 hG5 ?_; intro hG6; clear hG5
    refine wpAnyG_done (by kernel_rfl) ?_ _; clear hG6
    rotate_left
    (have hl := make_arc n (by omega) w0.drew; go_simp; clear hl)
    refine hK.out _ _ (Or.inr trivial) (fun hG3 => wpN ?_); clear hK hG2
    refine wpAnyG_ready (rs := [1]) (by kernel_rfl) (by simp) (AllG.cons rfl hG3 (fun K hK => ?_) AllG.nil)
    (have hl := make_arc n (by omega) (w0.alloc (.cells (tabC n fun _ => .slice none 0 0) 117)).drew; go_simp; clear hl)
    refine hK.out _ _ (Or.inl rfl) (fun hG4 => wpN ?_); clear hK hG3
    refine wpS1 4 hG4 ?_; intro hG5; clear hG4
    refine wpS1 5 hG5 ?_; intro hG6; clear hG5
    refine wpAnyG_done (by kernel_rfl) ?_ _; clear hG6
    rotate_left
    all_goals
      go_wp2
      go_meet
      have hA1 := (BxI.new w0 117 (tabC n fun _ => .slice none 0 0)).up (show Below _ _ ((w0.alloc _).alloc (.cells (tabC n fun _ => .slice none 0 0) 117)) from (Below.refl _ _).alloc (Nat.le_refl _) _)
      have hA2 := BxI.new2 w0 (.cells (tabC n fun _ => .slice none 0 0) 117) 117 (tabC n fun _ => .slice none 0 0)
      first
        | exact ⟨w0.heap.size, w0.heap.size + 1, rfl, rfl, by omega, by omega, by omega, Lib.hid hA1, Lib.hid hA2, Lib.hid (HB0.out.trans (Below.mono (by repeat (first | exact Below.refl _ _ | refine below_dN ?_ _ | refine Below.drew ?_ | refine Below.alloc ?_ (by first | omega | (simp; done) | (simp; omega)) _ | refine Below.setCell ?_ (by first | omega | (simp; done) | (simp; omega)) _ | refine below_step (by assumption) (by first | omega | (simp; done) | (simp; omega)) ?_)) hz0))⟩
        | exact ⟨w0.heap.size + 1, w0.heap.size, rfl, rfl, by omega, by omega, by omega, Lib.hid hA2, Lib.hid hA1, Lib.hid (HB0.out.trans (Below.mono (by repeat (first | exact Below.refl _ _ | refine below_dN ?_ _ | refine Below.drew ?_ | refine Below.alloc ?_ (by first | omega | (simp; done) | (simp; omega)) _ | refine Below.setCell ?_ (by first | omega | (simp; done) | (simp; omega)) _ | refine below_step (by assumption) (by first | omega | (simp; done) | (simp; omega)) ?_)) hz0))⟩
  case rest =>
  obtain ⟨FB, BB, rfl, rfl, hne, hFl, hBl, HF1, HB1, HW1⟩ := hcut
  obtain ⟨W1, rfl⟩ : ∃ W1, W1 = wc := ⟨_, rfl⟩
  have hz1 := HW1.out.size
  have hF2 := HF1.out.lt
  have hB2 := HB1.out.lt
  have x5 : W1.cell? ⟨X, 5, none⟩ = some (.slice EA el EC) := by rw [HEL.out]; exact (HX.out.up HW1.out).cell 5 _ rfl
  go_wp2_with fail
  clear x5
  go_loopw [25] (fun v25 wr => ∃ (k : Nat) (vs : Nat → Value) (ls : Nat → List (Int × Nat × Int)), v25 = .int .i64 k ∧ k ≤ el ∧ Hid (BxI wr FB 117 (tabC n vs)) ∧ Hid (BxI wr BB 117 (tabC n fun i => vs (n + i))) ∧ Hid (Fam wr W1.heap.size (n + n) 119 3 vs (fun r => (ls r).length) (fun r => arC (ls r))) ∧ Hid (∀ r, r < n + n → (ls r).length ≤ k + k ∧ ArcOk n (ls r)) ∧ Hid (Kb (fun b => b = FB ∨ b = BB) W1 wr)) (fun v _ => el - (RowKit.intOf v).toNat)
  case atStart => exact ⟨0, fun _ => .slice none 0 0, fun _ => [], rfl, Nat.zero_le _, HF1, HB1, Lib.hid (Fam.nil _ _ _ _ _), Lib.hid (fun r hr => ⟨by simp, fun a ha => by cases ha⟩), Lib.hid (Kb.refl _ _)⟩
  case round =>
    obtain ⟨k2, vs, ls, rfl, hk, HTF, HTB, HFA, HLS, HKB⟩ := hrel
    have hzr := HKB.out.size
    have HEW := Lib.hid (below_then HW1.out HKB.out (fun b h1 h2 => by rcases h2 with h2 | h2 <;> omega) hz1)
    have HXr := Lib.hid (HX.out.up HEW.out)
    by_cases hlt : k2 < el
    · obtain ⟨eb, rfl, heb, heb2, _⟩ := own_frozen' HE.out (by rw [← HEL.out]; omega)
      obtain ⟨g0, g1, g2⟩ := edC_get E k2 (by rw [← HEL.out]; exact hlt)
      have d0 := (HEW.out.cell (p := ⟨eb, _, none⟩) heb2).trans (own_cell HE.out g0)
      have d1 := (HEW.out.cell (p := ⟨eb, _, none⟩) heb2).trans (own_cell HE.out g1)
      have d2 := (HEW.out.cell (p := ⟨eb, _, none⟩) heb2).trans (own_cell HE.out g2)
      obtain ⟨haN, hlo, hbN⟩ := HER.out _ (edN_mem (show k2 < E.length by rw [← HEL.out]; exact hlt))
      obtain ⟨⟨a, l, b⟩, habc⟩ : ∃ x, x = edN E k2 := ⟨_, rfl⟩
      rw [← habc] at d0 d1 d2 haN hlo hbN
      dsimp only at d0 d1 d2 haN hlo hbN
      obtain ⟨ob, oo, oS, oc, oT, od, ea, hob, _, _, o1, _, _, _, _⟩ := HT.out.ops.at2 HEW.out hlo
      obtain ⟨hc0, hc1⟩ := HR.out.cost l hlo
      obtain ⟨cst, hcst⟩ : ∃ c, c = (opr t.ops l).cost := ⟨_, rfl⟩
      rw [← hcst] at o1 hc0 hc1
      have x3 : wr.cell? ⟨X, 3, none⟩ = some (.slice (some ⟨ob, oo, none⟩) t.ops.length p.co) := (HXr.out.cell 3 _ rfl).trans (by rw [← ea]; rfl)
      obtain ⟨wt, rfl⟩ : ∃ wt : World, wt = wr := ⟨_, rfl⟩
      have hxl2 := HXr.out.lt
      have hobw := HEW.out.size
      have hob2 : ob < wt.heap.size := by omega
      clear g0 g1 g2 habc ea hcst
      go_wp2_with fail
      have y1 := (BxI.new wt 64 #[.int .i64 a, .int .i64 l, .int .i64 b]).cell 1 _ rfl
      go_quiet (fail)
      go_upto_region 6 with fail
      obtain ⟨wf, hwf⟩ : ∃ W, W = (wt.alloc (.cells #[.int .i64 a, .int .i64 l, .int .i64 b] 64)).drewN nq := ⟨_, rfl⟩
      rw [← hwf]
      have HXf := Lib.hid (show BxI wf wt.heap.size 64 #[.int .i64 a, .int .i64 l, .int .i64 b] by rw [hwf]; exact BxI.new _ _ _)
      have HBf := Lib.hid (show Below wt.heap.size wt wf by rw [hwf]; exact below_dN ((Below.refl _ _).alloc (Nat.le_refl _) _) nq)
      clear hwf d0 d1 d2 o1 x3 y1
      have HTf := Lib.hid (HTF.out.up HBf.out)
      have HTBf := Lib.hid (HTB.out.up HBf.out)
      have HFf := Lib.hid (HFA.out.up HBf.out)
      have HLSf := Lib.hid (show ∀ r, r < n + n → (ls r).length ≤ k2 + k2 ∧ ArcOk n (ls r) from HLS.out)
      obtain ⟨vsf, hvf⟩ : ∃ v, v = vs := ⟨_, rfl⟩
      obtain ⟨lsf, hlf⟩ : ∃ v, v = ls := ⟨_, rfl⟩
      rw [← hvf] at HTf HTBf HFf
      rw [← hlf] at HFf HLSf
      have hzf := HBf.out.size
      clear hvf hlf
      obtain ⟨rfA, rfC, hrf⟩ := own_shape (HFf.out.own (a) (by omega))
      have HOf := Lib.hid (HFf.out.own (a) (by omega))
      rw [hrf] at HOf
      obtain ⟨rfn, hrfn⟩ : ∃ x, x = (lsf (a)).length := ⟨_, rfl⟩
      have hrfl : rfn ≤ k2 + k2 := by rw [hrfn]; exact (HLSf.out (a) (by omega)).1
      rw [← hrfn] at HOf hrf
      have HRNf := Lib.hid hrfn
      have HRSf := Lib.hid hrf
      have HSf := Lib.hid (show ∀ w' : World, Below wf.heap.size wf w' → w'.cell? ⟨wt.heap.size, 0, none⟩ = some (.int .i64 a) ∧ w'.cell? ⟨wt.heap.size, 2, none⟩ = some (.int .i64 b) ∧ w'.cell? ⟨FB, a, none⟩ = some (.slice rfA rfn rfC) from fun w' hb => ⟨(HXf.out.up hb).cell 0 _ rfl, (HXf.out.up hb).cell 2 _ rfl, (HTf.out.up hb).cell (a) _ (by rw [tabC_get (by omega)]; exact congrArg some hrf)⟩)
      have hxfl := HXf.out.lt
      have htfl := HTf.out.lt
      clear hrf hrfn
      refine wp_region_G 17 (fun w' => w'.cell? ⟨wt.heap.size, 0, none⟩ = some (.int .i64 a) ∧ w'.cell? ⟨wt.heap.size, 2, none⟩ = some (.int .i64 b) ∧ w'.cell? ⟨FB, a, none⟩ = some (.slice rfA rfn rfC)) (by kernel_rfl) (HSf.out _ (by repeat (first | exact Below.refl _ _ | refine below_dN ?_ _ | refine Below.drew ?_ | refine Below.alloc ?_ (by first | omega | (simp; done) | (simp; omega)) _ | refine Below.setCell ?_ (by first | omega | (simp; done) | (simp; omega)) _ | refine below_step (by assumption) (by first | omega | (simp; done) | (simp; omega)) ?_))) ?_
      intro hG0
      refine wpS1 0 hG0 ?_; intro hG1; clear hG0
      refine wpS1 1 hG1 ?_; intro hG2; clear hG1
      refine wpS2 2 hG2 ?_; intro hG3; clear hG2
      refine wpS1 3 hG3 ?_; intro hG4; clear hG3
      refine wpS1 4 hG4 ?_; intro hG5; clear hG4
      refine wpS2 5 hG5 ?_; intro hG6; clear hG5
      refine wpS1 6 hG6 ?_; intro hG7; clear hG6
      refine wpS2 7 hG7 ?_; intro hG8; clear hG7
      refine wpS1 8 hG8 ?_; intro hG9; clear hG8
      refine wpS2 9 hG9 ?_; intro hG10; clear hG9
      refine wpS1 10 hG10 ?_; intro hG11; clear hG10
      refine wpS2 11 hG11 ?_; intro hG12; clear hG11
      refine wpS1 12 hG12 ?_; intro hG13; clear hG12
      refine wpS1 13 hG13 ?_; intro hG14; clear hG13
      refine wpAnyG_ready (rs := [14]) (by kernel_rfl) (by simp) (AllG.cons rfl hG14 (fun K hK => ?_) AllG.nil)
      (go_simp)
      refine hK.out _ _ (Or.inr (HSf.out _ (by repeat (first | exact Below.refl _ _ | refine below_dN ?_ _ | refine Below.drew ?_ | refine Below.alloc ?_ (by first | omega | (simp; done) | (simp; omega)) _ | refine Below.setCell ?_ (by first | omega | (simp; done) | (simp; omega)) _ | refine below_step (by assumption) (by first | omega | (simp; done) | (simp; omega)) ?_)))) (fun hG15 => wpN ?_); clear hK hG14
      refine wpAnyG_ready (rs := [15]) (by kernel_rfl) (by simp) (AllG.cons rfl hG15 (fun K hK => ?_) AllG.nil)
      (refine step_append_src (by rfl) _ _ 117 (by rfl) W1.heap.size 119 ia (.agg #[.int .i64 0, .int .i64 0, .int .i64 0]) 3 24 qundAr ar1 ar2 ar3 ar4 rfl (by decide) (.slice rfA rfn rfC) rfn (arC (lsf (a))) (by rfl) (by exact HOf.out.alloc _) (some ⟨wf.heap.size, 0, none⟩) 1 1 [.int .i64 a, .int .i64 b, .int .i64 cst] (by rfl) (src_of (heap_alloc_new wf _) rfl (by intro u hu; simp at hu; rcases hu with rfl | rfl | rfl <;> rfl)) (by unfold maxLen; omega) (by omega) (by first | omega | (simp; done) | (simp; omega)) ?_; intro v13 wf3 hown13 hgrow13 hat13; obtain ⟨Af, cf, rfl⟩ := own_shape hown13; have HNf := Lib.hid hown13; have HGf := Lib.hid hgrow13; have HAf := Lib.hid hat13; have HXf3 := Lib.hid ((HXf.out.up (show Below wf.heap.size wf _ by repeat (first | exact Below.refl _ _ | refine below_dN ?_ _ | refine Below.drew ?_ | refine Below.alloc ?_ (by first | omega | (simp; done) | (simp; omega)) _ | refine Below.setCell ?_ (by first | omega | (simp; done) | (simp; omega)) _ | refine below_step (by assumption) (by first | omega | (simp; done) | (simp; omega)) ?_))).grown hgrow13 (fun e => own_ne_box HOf.out HXf.out (by decide) _ e.symm rfl)); have HTf3 := Lib.hid ((HTf.out.up (show Below wf.heap.size wf _ by repeat (first | exact Below.refl _ _ | refine below_dN ?_ _ | refine Below.drew ?_ | refine Below.alloc ?_ (by first | omega | (simp; done) | (simp; omega)) _ | refine Below.setCell ?_ (by first | omega | (simp; done) | (simp; omega)) _ | refine below_step (by assumption) (by first | omega | (simp; done) | (simp; omega)) ?_))).grown hgrow13 (fun e => own_ne_box HOf.out HTf.out (by decide) _ e.symm rfl)); have HTf4 := Lib.hid (show wf3.cell? ⟨FB, a, none⟩ = some (.slice rfA rfn rfC) from HTf3.out.cell (a) _ (by rw [tabC_get (by omega)]; exact congrArg some HRSf.out)); clear hown13 hgrow13 hat13)
      refine hK.out _ _ (Or.inr ⟨HXf3.out.cell 0 _ rfl, HXf3.out.cell 2 _ rfl, HTf4.out⟩) (fun hG16 => wpN ?_); clear hK hG15
      refine wpS1 16 hG16 ?_; intro hG17; clear hG16
      refine wpAnyG_ready (rs := [17]) (by kernel_rfl) (by simp) (AllG.cons rfl hG17 (fun K hK => ?_) AllG.nil)
      (refine step_store1 (by rfl) 117 _ _ (by rfl) (FB) (a) (.slice Af (rfn + 1) cf) (by rfl) (by rfl) (by rfl) (there_blk HTf3.out (by rw [tabC_size]; omega)) (by kernel_rfl) rfl ?_; intro wf5 HWf)
      refine hK.out _ _ (Or.inl rfl) (fun hG18 => wpN ?_); clear hK hG17
      refine wpAnyG_done (by kernel_rfl) ?_ _; clear hG18
      have hgf : (wf.alloc (.cells #[.int .i64 a, .int .i64 b, .int .i64 cst] 119)).grownBy wf3 (vsf (a)).ownBlock := by
        rw [HRSf.out]
        exact ⟨HGf.out.os, HGf.out.tape, HGf.out.output, HGf.out.size, HGf.out.block⟩
      have FPf := HFf.out.push (i := a) (m := 1) (news := [.int .i64 a, .int .i64 b, .int .i64 cst]) (v' := .slice Af (rfn + 1) cf) (by omega) hgf (by have h0 := HNf.out; rw [HRNf.out] at h0; rw [HRNf.out]; exact h0) (by rw [HRSf.out]; exact HAf.out)
      have KGf : Kb (fun bz => (vsf (a)).ownBlock = some bz) wf wf3 := (kb_alloc wf _ _).trans (kb_grown hgf)
      have KYf := kb_set (w := wf3) (p := ⟨FB, a, none⟩) (.slice Af (rfn + 1) cf)
      have BYf := HTf3.out.set (a) (.slice Af (rfn + 1) cf)
      rw [← HWf.out] at KYf BYf
      rw [tabC_set] at BYf
      have FYf := FPf.kb KYf (fun j hj b hb e => by have h1 := ((FPf.own j hj).lt b hb).1; have e : b = FB := e; omega)
      have HTBg0 := ((HTBf.out.up (show Below wf.heap.size wf (wf.alloc (.cells #[.int .i64 a, .int .i64 b, .int .i64 cst] 119)) from (Below.refl _ _).alloc (Nat.le_refl _) _)).grown hgf (fun e => by have := ((HFf.out.own a (by omega)).lt _ e.symm).1; omega)).kb KYf (fun e => hne (by have e : BB = FB := e; exact e.symm))
      have HLSg := Lib.hid (two_ls (a := a) (x := ((a : Int), b, cst)) HLSf.out ⟨hbN, hc0, hc1⟩)
      obtain ⟨vsg, hvg⟩ : ∃ v, v = upd vsf a (.slice Af (rfn + 1) cf) := ⟨_, rfl⟩
      obtain ⟨lsg, hlg⟩ : ∃ v, v = upd lsf a (lsf a ++ [((a : Int), b, cst)]) := ⟨_, rfl⟩
      rw [← hlg] at HLSg
      rw [← hvg] at BYf FYf
      have FYf2 := FYf.congr (ns' := fun r => (lsg r).length) (rows' := fun r => arC (lsg r)) (fun r hr => by
        rw [hlg]
        by_cases e : r = a
        · subst e; rw [upd_at]; simp [upd]
        · rw [upd_ne _ _ e]; simp [upd, e]) (fun r hr => by
        rw [hlg]
        by_cases e : r = a
        · subst e; rw [upd_at]; simp only [upd, if_true]; rw [arC_app]; rfl
        · rw [upd_ne _ _ e]; simp [upd, e])
      have HTBg0 := (show (tabC n fun i => vsf (n + i)) = tabC n fun i => vsg (n + i) from tabC_congr (fun i hi => by rw [hvg, upd_ne _ _ (by omega)])) ▸ HTBg0
      obtain ⟨wg, hwg⟩ : ∃ W, W = wf5 := ⟨_, rfl⟩
      have HXg := Lib.hid ((HXf3.out).kb KYf (fun e => by have e : wt.heap.size = FB := e; omega))
      have KF := Lib.hid ((((HKB.out.up HBf.out).then_ KGf (fun b hb e => by have := ((HFf.out.own a (by omega)).lt b e).1; omega))).then_ KYf (fun b _ e => .inl e))
      rw [← hwg] at BYf FYf2 HTBg0 HXg KF
      rw [← hwg]
      have HTg := Lib.hid HTBg0
      have HFg := Lib.hid FYf2
      have HTFg := Lib.hid BYf
      have hVG := Lib.hid hvg
      have hLG := Lib.hid hlg
      have hzg := KF.out.size
      have hwtg := HXg.out.lt
      clear hwg hvg hlg BYf FYf FYf2 HTBg0 KYf KGf FPf hgf
      go_wp2_with fail
      obtain ⟨rgA, rgC, hrg⟩ := own_shape (HFg.out.own (n + b) (by omega))
      have HOg := Lib.hid (HFg.out.own (n + b) (by omega))
      rw [hrg] at HOg
      obtain ⟨rgn, hrgn⟩ : ∃ x, x = (lsg (n + b)).length := ⟨_, rfl⟩
      have hrgl : rgn ≤ k2 + k2 + 1 := by rw [hrgn]; exact (HLSg.out (n + b) (by omega)).1
      rw [← hrgn] at HOg hrg
      have HRNg := Lib.hid hrgn
      have HRSg := Lib.hid hrg
      have HSg := Lib.hid (show ∀ w' : World, Below wg.heap.size wg w' → w'.cell? ⟨wt.heap.size, 0, none⟩ = some (.int .i64 a) ∧ w'.cell? ⟨wt.heap.size, 2, none⟩ = some (.int .i64 b) ∧ w'.cell? ⟨BB, b, none⟩ = some (.slice rgA rgn rgC) from fun w' hb => ⟨(HXg.out.up hb).cell 0 _ rfl, (HXg.out.up hb).cell 2 _ rfl, (HTg.out.up hb).cell (b) _ (by rw [tabC_get (by omega)]; exact congrArg some hrg)⟩)
      have hxgl := HXg.out.lt
      have htgl := HTg.out.lt
      clear hrg hrgn
      refine wp_region_G 17 (fun w' => w'.cell? ⟨wt.heap.size, 0, none⟩ = some (.int .i64 a) ∧ w'.cell? ⟨wt.heap.size, 2, none⟩ = some (.int .i64 b) ∧ w'.cell? ⟨BB, b, none⟩ = some (.slice rgA rgn rgC)) (by kernel_rfl) (HSg.out _ (by repeat (first | exact Below.refl _ _ | refine below_dN ?_ _ | refine Below.drew ?_ | refine Below.alloc ?_ (by first | omega | (simp; done) | (simp; omega)) _ | refine Below.setCell ?_ (by first | omega | (simp; done) | (simp; omega)) _ | refine below_step (by assumption) (by first | omega | (simp; done) | (simp; omega)) ?_))) ?_
      intro hG0
      refine wpS1 0 hG0 ?_; intro hG1; clear hG0
      refine wpS1 1 hG1 ?_; intro hG2; clear hG1
      refine wpS2 2 hG2 ?_; intro hG3; clear hG2
      refine wpS1 3 hG3 ?_; intro hG4; clear hG3
      refine wpS1 4 hG4 ?_; intro hG5; clear hG4
      refine wpS2 5 hG5 ?_; intro hG6; clear hG5
      refine wpS1 6 hG6 ?_; intro hG7; clear hG6
      refine wpS2 7 hG7 ?_; intro hG8; clear hG7
      refine wpS1 8 hG8 ?_; intro hG9; clear hG8
      refine wpS2 9 hG9 ?_; intro hG10; clear hG9
      refine wpS1 10 hG10 ?_; intro hG11; clear hG10
      refine wpS2 11 hG11 ?_; intro hG12; clear hG11
      refine wpS1 12 hG12 ?_; intro hG13; clear hG12
      refine wpS1 13 hG13 ?_; intro hG14; clear hG13
      refine wpAnyG_ready (rs := [14]) (by kernel_rfl) (by simp) (AllG.cons rfl hG14 (fun K hK => ?_) AllG.nil)
      (go_simp)
      refine hK.out _ _ (Or.inr (HSg.out _ (by repeat (first | exact Below.refl _ _ | refine below_dN ?_ _ | refine Below.drew ?_ | refine Below.alloc ?_ (by first | omega | (simp; done) | (simp; omega)) _ | refine Below.setCell ?_ (by first | omega | (simp; done) | (simp; omega)) _ | refine below_step (by assumption) (by first | omega | (simp; done) | (simp; omega)) ?_)))) (fun hG15 => wpN ?_); clear hK hG14
      refine wpAnyG_ready (rs := [15]) (by kernel_rfl) (by simp) (AllG.cons rfl hG15 (fun K hK => ?_) AllG.nil)
      (refine step_append_src (by rfl) _ _ 117 (by rfl) W1.heap.size 119 ia (.agg #[.int .i64 0, .int .i64 0, .int .i64 0]) 3 24 qundAr ar1 ar2 ar3 ar4 rfl (by decide) (.slice rgA rgn rgC) rgn (arC (lsg (n + b))) (by rfl) (by exact HOg.out.alloc _) (some ⟨wg.heap.size, 0, none⟩) 1 1 [.int .i64 b, .int .i64 a, .int .i64 cst] (by rfl) (src_of (heap_alloc_new wg _) rfl (by intro u hu; simp at hu; rcases hu with rfl | rfl | rfl <;> rfl)) (by unfold maxLen; omega) (by omega) (by first | omega | (simp; done) | (simp; omega)) ?_; intro v13 wg3 hown13 hgrow13 hat13; obtain ⟨Ag, cg, rfl⟩ := own_shape hown13; have HNg := Lib.hid hown13; have HGg := Lib.hid hgrow13; have HAg := Lib.hid hat13; have HXg3 := Lib.hid ((HXg.out.up (show Below wg.heap.size wg _ by repeat (first | exact Below.refl _ _ | refine below_dN ?_ _ | refine Below.drew ?_ | refine Below.alloc ?_ (by first | omega | (simp; done) | (simp; omega)) _ | refine Below.setCell ?_ (by first | omega | (simp; done) | (simp; omega)) _ | refine below_step (by assumption) (by first | omega | (simp; done) | (simp; omega)) ?_))).grown hgrow13 (fun e => own_ne_box HOg.out HXg.out (by decide) _ e.symm rfl)); have HTg3 := Lib.hid ((HTg.out.up (show Below wg.heap.size wg _ by repeat (first | exact Below.refl _ _ | refine below_dN ?_ _ | refine Below.drew ?_ | refine Below.alloc ?_ (by first | omega | (simp; done) | (simp; omega)) _ | refine Below.setCell ?_ (by first | omega | (simp; done) | (simp; omega)) _ | refine below_step (by assumption) (by first | omega | (simp; done) | (simp; omega)) ?_))).grown hgrow13 (fun e => own_ne_box HOg.out HTg.out (by decide) _ e.symm rfl)); have HTg4 := Lib.hid (show wg3.cell? ⟨BB, b, none⟩ = some (.slice rgA rgn rgC) from HTg3.out.cell (b) _ (by rw [tabC_get (by omega)]; exact congrArg some HRSg.out)); clear hown13 hgrow13 hat13)
      refine hK.out _ _ (Or.inr ⟨HXg3.out.cell 0 _ rfl, HXg3.out.cell 2 _ rfl, HTg4.out⟩) (fun hG16 => wpN ?_); clear hK hG15
      refine wpS1 16 hG16 ?_; intro hG17; clear hG16
      refine wpAnyG_ready (rs := [17]) (by kernel_rfl) (by simp) (AllG.cons rfl hG17 (fun K hK => ?_) AllG.nil)
      (refine step_store1 (by rfl) 117 _ _ (by rfl) (BB) (b) (.slice Ag (rgn + 1) cg) (by rfl) (by rfl) (by rfl) (there_blk HTg3.out (by rw [tabC_size]; omega)) (by kernel_rfl) rfl ?_; intro wg5 HWg)
      refine hK.out _ _ (Or.inl rfl) (fun hG18 => wpN ?_); clear hK hG17
      refine wpAnyG_done (by kernel_rfl) ?_ _; clear hG18
      have hgg : (wg.alloc (.cells #[.int .i64 b, .int .i64 a, .int .i64 cst] 119)).grownBy wg3 (vsg (n + b)).ownBlock := by
        rw [HRSg.out]
        exact ⟨HGg.out.os, HGg.out.tape, HGg.out.output, HGg.out.size, HGg.out.block⟩
      have FPg := HFg.out.push (i := n + b) (m := 1) (news := [.int .i64 b, .int .i64 a, .int .i64 cst]) (v' := .slice Ag (rgn + 1) cg) (by omega) hgg (by have h0 := HNg.out; rw [HRNg.out] at h0; rw [HRNg.out]; exact h0) (by rw [HRSg.out]; exact HAg.out)
      have KGg : Kb (fun bz => (vsg (n + b)).ownBlock = some bz) wg wg3 := (kb_alloc wg _ _).trans (kb_grown hgg)
      have KYg := kb_set (w := wg3) (p := ⟨BB, b, none⟩) (.slice Ag (rgn + 1) cg)
      have BYg := HTg3.out.set (b) (.slice Ag (rgn + 1) cg)
      rw [← HWg.out] at KYg BYg
      rw [tabC_set] at BYg
      have FYg := FPg.kb KYg (fun j hj b hb e => by have h1 := ((FPg.own j hj).lt b hb).1; have e : b = BB := e; omega)
      go_wp2_with fail
      go_roundw
      case rel =>
        have HTF2 := ((HTFg.out.up (show Below wg.heap.size wg (wg.alloc (.cells #[.int .i64 b, .int .i64 a, .int .i64 cst] 119)) from (Below.refl _ _).alloc (Nat.le_refl _) _)).grown hgg (fun e => by have := ((HFg.out.own (n + b) (by omega)).lt _ e.symm).1; omega)).kb KYg (fun e => hne (by have e : FB = BB := e; exact e))
        have HTF3 := (show tabC n vsg = tabC n (upd vsg (n + b) (.slice Ag (rgn + 1) cg)) from tabC_congr (fun i hi => by rw [upd_ne _ _ (by omega)])) ▸ HTF2
        have HTB3 := (show tabC n (upd (fun i => vsg (n + i)) b (.slice Ag (rgn + 1) cg)) = tabC n (fun i => upd vsg (n + b) (.slice Ag (rgn + 1) cg) (n + i)) from tabC_congr (fun i hi => by
          by_cases e : i = b
          · subst e; rw [upd_at, upd_at]
          · rw [upd_ne _ _ e, upd_ne _ _ (by omega)])) ▸ BYg
        have HLS2 := two_ls (a := n + b) (x := ((b : Int), a, cst)) HLSg.out ⟨haN, hc0, hc1⟩
        have K2 := (KF.out.then_ KGg (fun b' hb e => by have := ((HFg.out.own (n + b) (by omega)).lt b' e).1; omega)).then_ KYg (fun b _ e => .inr e)
        refine ⟨k2 + 1, _, upd lsg (n + b) (lsg (n + b) ++ [((b : Int), a, cst)]), rfl, by omega, Lib.hid HTF3, Lib.hid HTB3, Lib.hid (FYg.congr (fun r hr => ?_) (fun r hr => ?_)), Lib.hid (fun r hr => ⟨by have := (HLS2 r hr).1; omega, (HLS2 r hr).2⟩), Lib.hid K2⟩
        · by_cases e : r = n + b
          · subst e; rw [upd_at]; simp [upd]
          · rw [upd_ne _ _ e]; simp [upd, e]
        · by_cases e : r = n + b
          · subst e; rw [upd_at]; simp only [upd, if_true]; rw [arC_app]; rfl
          · rw [upd_ne _ _ e]; simp [upd, e]
      case measure => simp [RowKit.intOf]; omega
    · obtain rfl : k2 = el := by omega
      obtain ⟨W2, rfl⟩ : ∃ W2, W2 = wr := ⟨_, rfl⟩
      have x6 : W2.cell? ⟨X, 6, none⟩ = some (.slice GA gl GC) := by rw [HGL.out]; exact HXr.out.cell 6 _ rfl
      have hxl2 := HXr.out.lt
      go_wp2_with fail
      clear x6
      go_loopw [8, 79] (fun v8 v79 wr => ∃ (i : Nat) (LA : Option Addr) (LC : Nat) (gi : List Nat), v8 = .slice LA gi.length LC ∧ v79 = .int .i64 i ∧ i ≤ gl ∧ gi.length ≤ i ∧ Hid (∀ x ∈ gi, x < n) ∧ Hid (wr.ownsRow W2.heap.size 3 1 (.slice LA gi.length LC) gi.length (ic (nI gi))) ∧ Hid (Below W2.heap.size W2 wr)) (fun _ v _ => gl - (RowKit.intOf v).toNat)
      case atStart => exact ⟨0, none, 0, [], rfl, rfl, Nat.zero_le _, Nat.le_refl _, Lib.hid (fun x hx => by cases hx), Lib.hid (World.ownsRow_nil _ _ _ _), Lib.hid (Below.refl _ _)⟩
      case round =>
        obtain ⟨i, LA, LC, gi, rfl, rfl, hi, hgi, HGI, HLO, HEG⟩ := hrel
        have hz3 := HEG.out.size
        have HEGW := Lib.hid (HEW.out.trans (HEG.out.mono HEW.out.size))
        by_cases hlti : i < gl
        · obtain ⟨gb, rfl, hgb1, hgb2, _⟩ := own_frozen' HG.out (by rw [← HGL.out]; omega)
          have hbl : i < (blC gs).length := by rw [HG.out.1, ← HGL.out]; omega
          obtain ⟨b, hb⟩ : ∃ b, (blC gs)[i]? = some (.bool b) := by
            unfold blC at hbl ⊢
            rw [List.length_map] at hbl
            exact ⟨gs[i], by rw [List.getElem?_map, List.getElem?_eq_getElem hbl]; rfl⟩
          have i0 := (HEGW.out.cell (p := ⟨gb, i, none⟩) hgb2).trans (own_cell HG.out hb)
          obtain ⟨wt, rfl⟩ : ∃ wt : World, wt = wr := ⟨_, rfl⟩
          clear hb hbl
          cases b
          · go_wp2_with fail
            go_roundw
            case rel => exact ⟨i + 1, LA, LC, gi, rfl, rfl, by omega, by omega, HGI, HLO, HEG⟩
            case measure => simp [RowKit.intOf]; omega
          · go_wp2_with (at_builtin; refine wpList_append_src (by rfl) _ _ 22 (by rfl) W2.heap.size 3 ii (.int .i64 0) 1 8 undI hi1 iq0 iq1 iq2 rfl (by decide) (.slice LA gi.length LC) gi.length (ic (nI gi)) (by rfl) (by exact HLO.out.alloc _) (some ⟨wt.heap.size, 0, none⟩) 1 1 [.int .i64 (i : Nat)] (by rfl) (src_of (heap_alloc_new wt _) rfl (by intro u hu; simp at hu; subst hu; rfl)) (by unfold maxLen; omega) (by omega) (by first | omega | (simp; done) | (simp; omega)) ?_; intro v9 w9 hown9 hgrow9 hat9; obtain ⟨A9, c9, rfl⟩ := own_shape hown9; have HO9 := Lib.hid hown9; have HG9 := Lib.hid hgrow9; clear hown9 hgrow9 hat9)
            go_roundw
            case rel => exact ⟨i + 1, A9, c9, gi ++ [i], by rw [List.length_append]; rfl, rfl, by omega, by rw [List.length_append]; simp; omega, Lib.hid (fun x hx => by
              rcases List.mem_append.1 hx with hx | hx
              · exact HGI.out x hx
              · simp only [List.mem_singleton] at hx; omega), Lib.hid (by rw [List.length_append, ← icn_push]; exact HO9.out), Lib.hid ((HEG.out.alloc hz3 _).grown HG9.out (by simp; omega) (fun b hb => (HLO.out.lt b hb).1))⟩
            case measure => simp [RowKit.intOf]; omega
        · obtain rfl : i = gl := by omega
          obtain ⟨W3, rfl⟩ : ∃ W3, W3 = wr := ⟨_, rfl⟩
          have HF3 := Lib.hid (HFA.out.up HEG.out)
          have HLS3 := Lib.hid (show ∀ r, r < n + n → (ls r).length ≤ 50000 ∧ ArcOk n (ls r) from fun r hr => ⟨by have := (HLS.out r hr).1; omega, (HLS.out r hr).2⟩)
          have HAF := Lib.hid (arcs_of (off := 0) HF3.out (by have := HTF.out.up HEG.out; simpa using this) (by omega) HLS3.out)
          have HAB := Lib.hid (arcs_of (off := n) HF3.out (HTB.out.up HEG.out) (by omega) HLS3.out)
          have HX3 := Lib.hid (HX.out.up HEGW.out)
          have HX3lt := HX3.out.lt
          have hW12 : W1.heap.size ≤ W2.heap.size := HKB.out.size
          go_wp2_with fail
          obtain ⟨wa, hwa⟩ : ∃ W, W = W3.alloc (.cells #[.int .i64 0] 3) := ⟨_, rfl⟩
          rw [← hwa]
          have HBa := Lib.hid (show Below W3.heap.size W3 wa by rw [hwa]; exact (Below.refl _ _).alloc (Nat.le_refl _) _)
          have hza : W3.heap.size + 1 ≤ wa.heap.size := by rw [hwa]; simp
          have HFL := Lib.hid (show IntsAt wa wa.heap.size (some ⟨W3.heap.size, 0, none⟩) [0] from ⟨by simp, fun _ => ⟨W3.heap.size, 0, rfl, by omega, fun k hk => by
            have : k = 0 := by simp at hk; omega
            subst this
            rw [hwa]
            exact (BxI.new _ _ _).cell 0 _ rfl⟩⟩)
          have KS1 := Lib.hid (shortest_any (C := n) (FC := 1) ((HAF.out.keep HBa.out).mono (by omega)) (by omega) HFL.out (by simp) (fun k hk => by
            have : k = 0 := by simp at hk; omega
            subst this
            simp [nth]
            omega))
          clear hwa
          refine KS1.out.mono ?_
          rintro e w5 ⟨⟨A1, n1, c1, A2, n2, c2, rfl⟩, hb5⟩
          have HB5 := Lib.hid (HBa.out.trans (hb5.mono (by omega)))
          have hz5 := HB5.out.size
          have HX5 := Lib.hid (HX3.out.up HB5.out)
          have hX5lt := HX5.out.lt
          clear hb5 KS1
          go_wp2_with (refine wpList_store1 (by rfl) 22 _ _ (by rfl) X 7 (.slice A1 n1 c1) (by rfl) (by rfl) (by rfl) (there_blk HX5.out (by simp)) (by kernel_rfl) rfl ?_; intro w6 HW6)
          have HX6 := HX5.out.set 7 (.slice A1 n1 c1)
          have K6 := kb_set (w := w5) (p := ⟨X, 7, none⟩) (.slice A1 n1 c1)
          rw [← HW6.out] at HX6 K6
          have HX6 := Lib.hid HX6
          have HF6 := Lib.hid ((HF3.out.up HB5.out).kb K6 (fun j hj b hb e => by have := ((HFA.out.own j hj).lt b hb).1; have e : b = X := e; omega))
          have HTB6 := Lib.hid (((HTB.out.up HEG.out).up HB5.out).kb K6 (fun e => by have e : BB = X := e; omega))
          have HAB := Lib.hid (arcs_of (off := n) HF6.out HTB6.out (by omega) HLS3.out)
          have HLO6 := own_kb1 (own_kb1 HLO.out (Kb.of_below (bad := fun _ => False) HB5.out) (fun _ _ h => h)) K6 (fun b hb e => by have := (HLO.out.lt b hb).1; have e : b = X := e; omega)
          have HIK := Lib.hid (own_intk2 (bad := fun _ => False) (c := LC) (l := nI gi) (by rw [nI_len]; exact HLO6) (by rw [nI_len]; omega) (fun _ _ h => h))
          have KS2 := shortest_any (C := n) (FC := LC) HAB.out (by omega) HIK.out.at_ (by rw [nI_len]; omega) (fun k hk => by
            rw [nI_len] at hk
            rw [nI_get hk]
            have := HGI.out _ (opN_mem hk)
            omega)
          rw [nI_len] at KS2
          have HKS2 := Lib.hid KS2
          have HK6 := Lib.hid (show Kb (fun b => b = X) w w6 from (Kb.of_below (HEGW.out.trans (HB5.out.mono HEGW.out.size))).trans K6)
          clear K6 HLO6 KS2
          refine HKS2.out.mono ?_
          rintro e w7 ⟨⟨A3, n3, c3, A4, n4, c4, rfl⟩, hb7⟩
          have HK7 := Lib.hid (HK6.out.up hb7)
          have HX7 := Lib.hid (HX6.out.up hb7)
          have hX7lt := HX7.out.lt
          clear hb7 HKS2
          go_wp2_with (first
            | (refine wpList_store1 (by rfl) 22 _ _ (by rfl) X 8 (.slice A3 n3 c3) (by rfl) (by rfl) (by rfl) (there_blk HX7.out (by simp)) (by kernel_rfl) rfl ?_; intro w8 HW8; have HX8 := HX7.out.set 8 (.slice A3 n3 c3); rw [← HW8.out] at HX8; have HX8 := Lib.hid HX8; have hX8lt := HX8.out.lt)
            | (refine wpList_store1 (by rfl) 22 _ _ (by rfl) X 9 (.slice A4 n4 c4) (by rfl) (by rfl) (by rfl) (there_blk HX8.out (by simp)) (by kernel_rfl) rfl ?_; intro w9 HW9))
          have HX9 := HX8.out.set 9 (.slice A4 n4 c4)
          have K8 := kb_set (w := w7) (p := ⟨X, 8, none⟩) (.slice A3 n3 c3)
          have K9 := kb_set (w := w8) (p := ⟨X, 9, none⟩) (.slice A4 n4 c4)
          rw [← HW9.out] at HX9 K9
          rw [← HW8.out] at K8
          refine bodyPost_end (results_none rfl _ _ _) rfl ⟨⟨rfl, .slice A1 n1 c1, .slice A3 n3 c3, .slice A4 n4 c4, ?_⟩, (HK7.out.trans K8).trans K9⟩
          exact HX9
end Go.Proofs.YtpobnjbpglaohaaGreat

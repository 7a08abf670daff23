/- succgen: Successors, walked. -/
import Derived.Test.YtpobnjbpglaohaaGreatWrF
import Derived.Test.YtpobnjbpglaohaaGreatWgB
namespace Go.Proofs.YtpobnjbpglaohaaGreat
set_option linter.unusedSimpArgs false
set_option linter.unusedVariables false
open Go Go.RowKit
set_option linter.unusedVariables false

/-- The successors of s in memory. -/
def SucAt (w : World) (A : Option Addr) (t : Tsk) (s : List Int) : Prop := 0 < (ops1 t s).length → ∃ b, A = some ⟨b, 0, none⟩ ∧ b < w.heap.size ∧ ∀ k, k < (ops1 t s).length → w.cell? ⟨b, k * 2, none⟩ = some (.int .i64 (opN (ops1 t s) k : Nat)) ∧
  ∃ A' c', w.cell? ⟨b, k * 2 + 1, none⟩ = some (.slice A' s.length c') ∧ IntsAt w w.heap.size A' (nxt t s (opN (ops1 t s) k))
theorem SucAt.up {w w' : World} {A : Option Addr} {t : Tsk} {s : List Int} (h : SucAt w A t s) (k : Below w.heap.size w w') : SucAt w' A t s := fun h0 => by
  obtain ⟨b, e, hb, hc⟩ := h h0
  refine ⟨b, e, Nat.lt_of_lt_of_le hb k.size, fun j hj => ?_⟩
  obtain ⟨h1, A', c', h2, h3⟩ := hc j hj
  exact ⟨(k.cell (p := ⟨b, _, none⟩) hb).trans h1, A', c', (k.cell (p := ⟨b, _, none⟩) hb).trans h2, h3.up k⟩
def SuIs (w : World) (bad : Nat → Prop) (t : Tsk) (s : List Int) (xs : List Value) (i : Nat) : Prop := xs.length = i * 2 ∧ ∀ k, k < i → xs[k * 2]? = some (.int .i64 (opN (ops1 t s) k : Nat)) ∧ ∃ A' c', xs[k * 2 + 1]? = some (.slice A' s.length c') ∧ IntK w bad A' (nxt t s (opN (ops1 t s) k))
theorem SuIs.move {w w' : World} {bad bad' : Nat → Prop} {t : Tsk} {s : List Int} {xs : List Value} {i : Nat} (h : SuIs w bad t s xs i) (m : Moves w w' bad bad') : SuIs w' bad' t s xs i :=
  ⟨h.1, fun k hk => by
    obtain ⟨h1, A', c', h2, h3⟩ := h.2 k hk
    exact ⟨h1, A', c', h2, h3.move m⟩⟩
theorem SuIs.push {w : World} {bad : Nat → Prop} {t : Tsk} {s : List Int} {xs : List Value} {i : Nat} (h : SuIs w bad t s xs i) {A' : Option Addr} {c' : Nat} (hk : IntK w bad A' (nxt t s (opN (ops1 t s) i))) :
    SuIs w bad t s (xs ++ [.int .i64 (opN (ops1 t s) i : Nat), .slice A' s.length c']) (i + 1) := by
  refine ⟨by rw [List.length_append, h.1]; simp; omega, fun k hlt => ?_⟩
  by_cases e : k = i
  · subst e
    refine ⟨by rw [List.getElem?_append_right (by rw [h.1]; exact Nat.le_refl _), h.1]; simp, A', c', ?_, hk⟩
    rw [List.getElem?_append_right (by rw [h.1]; omega), h.1]
    simp
  · obtain ⟨h1, A2, c2, h2, h3⟩ := h.2 k (by omega)
    exact ⟨get_app h1, A2, c2, get_app h2, h3⟩
theorem qundSu : Tryz.prog.underlying 54 = some (.slice 57) := by kernel_rfl
theorem qinfSu : (Tryz.prog.info? 57).map (fun i => (i.zero, i.size, i.bytes)) = some (some (.agg #[.int .i64 0, .slice none 0 0]), 2, 32) := by kernel_rfl
theorem apE_set {t : Tsk} {s : List Int} {es : List Eff} {j : Nat} (h : hoB (eff es j).whn s = true) : apE s es (j + 1) = (apE s es j).set (eff es j).var.toNat (eff es j).val := by
  rw [apE, if_pos h]
theorem apE_no {s : List Int} {es : List Eff} {j : Nat} (h : hoB (eff es j).whn s = false) : apE s es (j + 1) = apE s es j := by
  rw [apE, if_neg (by rw [h]; simp)]

set_option maxRecDepth 20000 in
set_option maxHeartbeats 8000000 in
theorem gsucc_any (t : Tsk) (G : Nat) (s : List Int) (SA : Option Addr) (Sc : Nat) (w : World) (hg : GenAt w G t) (hr : Right t) (hs : IntsAt w w.heap.size SA s) (hst : StP t.vars s) :
    Calls Tryz.prog 17 #[.pointer (some ⟨G, 0, none⟩), .slice SA s.length Sc] w fun e w' => (∃ A c, e = .returned (.slice A (ops1 t s).length c) ∧ ∀ w2, Kb (fun b => b < w.heap.size) w' w2 → SucAt w2 A t s) ∧ Below w.heap.size w w' := by
  obtain ⟨is, su1, su2, su3, su4⟩ := info_parts qinfSu
  have K := Lib.hid (gapp_any t G s SA Sc w hg hr hs hst)
  obtain ⟨p, np, C, hgn, _, _⟩ := hg
  have HGN := Lib.hid hgn
  have HRT := Lib.hid hr
  have HSI := Lib.hid hs
  have HST := Lib.hid hst
  have hnv := hr.nv
  have hsl : s.length ≤ 64 := by have := hst.1; omega
  have hon : (ops1 t s).length ≤ 4096 := Nat.le_trans (ops1_len t s) hr.no
  have hxl := hgn.box.lt
  obtain ⟨al, hal⟩ : ∃ l, l = appL t s := ⟨_, rfl⟩
  rw [← hal] at K
  obtain ⟨n, hn⟩ : ∃ n, n = (ops1 t s).length := ⟨_, rfl⟩
  have haln : al.length = n := by rw [hal, appL_len, hn]
  rw [← hn] at hon
  rw [← hn]
  have HN := Lib.hid hn
  have HAL := Lib.hid hal
  have HALN := Lib.hid haln
  clear hgn hr hs hst hal hn haln
  go_enter Tryz.func17, Tryz.ntmps17
  go_wp2_with fail
  refine K.out.mono ?_
  rintro e w1 ⟨⟨LA, Lc, rfl, hlo⟩, hb1⟩
  rw [HALN.out] at hlo
  rw [HALN.out]
  have HLO := Lib.hid hlo
  have HB1 := Lib.hid hb1
  have hz1 := hb1.size
  clear hlo hb1 K
  go_wp2_with fail
  go_loopw [5, 15] (fun v5 v15 wr => ∃ (i : Nat) (OA : Option Addr) (OC : Nat) (xs : List Value), v5 = .slice OA i OC ∧ v15 = .int .i64 i ∧ i ≤ n ∧ Hid (wr.ownsRow w1.heap.size 57 2 (.slice OA i OC) i xs) ∧ Hid (SuIs wr (fun b => b < w1.heap.size ∨ (Value.slice OA i OC).ownBlock = some b) t s xs i) ∧ Hid (Below w1.heap.size w1 wr)) (fun _ v _ => n - (RowKit.intOf v).toNat)
  case atStart => exact ⟨0, none, 0, [], rfl, rfl, Nat.zero_le _, Lib.hid (World.ownsRow_nil _ _ _ _), Lib.hid ⟨rfl, fun k hk => absurd hk (Nat.not_lt_zero _)⟩, Lib.hid (Below.refl _ _)⟩
  case round =>
    obtain ⟨i, OA, OC, xs, rfl, rfl, hi, HOW, HSU, HE⟩ := hrel
    have hzr := HE.out.size
    have HEW := Lib.hid (HB1.out.trans (HE.out.mono hz1))
    by_cases hlt : i < n
    · obtain ⟨o, ho⟩ : ∃ o, o = opN (ops1 t s) i := ⟨_, rfl⟩
      have hol : o < t.ops.length := by rw [ho]; exact (opN_lt (by rw [← HN.out]; exact hlt)).1
      have HOO := Lib.hid ho
      obtain ⟨lg, rfl, hlg1, hlg2, _⟩ := own_frozen' HLO.out (by omega)
      have i0 := (HE.out.cell (p := ⟨lg, i, none⟩) hlg2).trans (own_cell HLO.out (i := i) (u := .int .i64 (o : Nat)) (by
        have h1 := ic_get (l := al) (k := i) (by rw [HALN.out]; exact hlt)
        rw [h1, HAL.out]
        unfold appL
        rw [nI_get (by rw [← HN.out]; exact hlt), ← ho]))
      obtain ⟨b, oo, S, c, T, d, ea, hb, _, _, _, _, _, d3, e3⟩ := HGN.out.task.ops.at2 HEW.out hol
      have x3 := (HGN.out.box.up HEW.out).cell 3 _ rfl
      have HE3 := Lib.hid e3
      have hne := HRT.out.ne o hol
      have HNW := Lib.hid (HRT.out.nw o hol)
      have HEF := Lib.hid (HRT.out.eff o hol)
      obtain ⟨es, hes⟩ : ∃ es, es = (opr t.ops o).effs := ⟨_, rfl⟩
      rw [← hes] at d3 HE3 hne HNW HEF
      have HES := Lib.hid hes
      obtain ⟨wt, rfl⟩ : ∃ wt : World, wt = wr := ⟨_, rfl⟩
      clear ho hes e3
      have KC := Lib.hid (cloneI2 s SA Sc wt (HSI.out.up HEW.out) (by omega))
      go_wp2_with fail
      refine KC.out.mono ?_
      rintro e w4 ⟨⟨NA, NC, rfl, _, hno⟩, hb4⟩
      have HB4 := Lib.hid hb4
      have hz4 := hb4.size
      have HNO := Lib.hid hno
      have x3 := (HGN.out.box.up (HEW.out.trans (HB4.out.mono HEW.out.size))).cell 3 _ rfl
      have x3' : w4.cell? ⟨G, 3, none⟩ = some (.slice (some ⟨b, oo, none⟩) t.ops.length p.co) := x3.trans (by rw [← ea]; rfl)
      have d3 := (HB4.out.cell (p := ⟨b, oo + o * 4 + 3, none⟩) (by have := HEW.out.size; show b < _; omega)).trans d3
      clear hb4 hno x3 i0 ea KC
      go_wp2_with fail
      clear d3 x3'
      go_loopw [31] (fun v31 wq => ∃ j : Nat, v31 = .int .i64 j ∧ j ≤ es.length ∧ Hid (wq.ownsRow wt.heap.size 3 1 (.slice NA s.length NC) s.length (ic (apE s es j))) ∧ Hid (Below wt.heap.size wt wq)) (fun v _ => es.length - (RowKit.intOf v).toNat)
      case atStart => exact ⟨0, rfl, Nat.zero_le _, HNO, HB4⟩
      case round =>
        obtain ⟨j, rfl, hj, HNR, HEQ⟩ := hrel
        have hzq := HEQ.out.size
        have HEQW := Lib.hid (HEW.out.trans (HEQ.out.mono HEW.out.size))
        by_cases hlt2 : j < es.length
        · obtain ⟨b', o', S', c', ea', hb', j0, f5, j1, j2⟩ := HE3.out.at2 HEQW.out hlt2
          subst ea'
          have HFJ := Lib.hid f5
          have hef := HEF.out j hlt2
          have hnwj := HNW.out j hlt2
          obtain ⟨ej, hej⟩ : ∃ ej, ej = eff es j := ⟨_, rfl⟩
          rw [← hej] at j0 j1 j2 HFJ hef hnwj
          obtain ⟨vn, hvn⟩ : ∃ vn : Nat, ej.var = (vn : Int) := ⟨ej.var.toNat, by omega⟩
          have hvs : vn < s.length := by have := HST.out.1; omega
          rw [hvn] at j1
          have HVN := Lib.hid hvn
          have HEJ := Lib.hid hej
          have KH := Lib.hid (fun W (kb : Below wr.heap.size wr W) => holds_any ej.whn s S' SA c' Sc W ((HFJ.out.up HEQW.out).up kb) ((HSI.out.up HEQW.out).up kb))
          clear f5 hej hvn
          obtain ⟨wq, rfl⟩ : ∃ wq : World, wq = wr := ⟨_, rfl⟩
          go_wp2_with fail
          refine (KH.out _ (by repeat (first | exact Below.refl _ _ | refine below_dN ?_ _ | refine Below.drew ?_ | refine Below.alloc ?_ (by first | omega | (simp; done) | (simp; omega)) _ | refine Below.setCell ?_ (by first | omega | (simp; done) | (simp; omega)) _ | refine below_step (by assumption) (by first | omega | (simp; done) | (simp; omega)) ?_))).mono ?_
          rintro e w9 ⟨rfl, hb9⟩
          have HB9 := Lib.hid (show Below wq.heap.size wq w9 from below_step hb9 (show wq.heap.size ≤ _ by simp) (show Below wq.heap.size wq _ by repeat (first | exact Below.refl _ _ | refine below_dN ?_ _ | refine Below.drew ?_ | refine Below.alloc ?_ (by first | omega | (simp; done) | (simp; omega)) _ | refine Below.setCell ?_ (by first | omega | (simp; done) | (simp; omega)) _ | refine below_step (by assumption) (by first | omega | (simp; done) | (simp; omega)) ?_)))
          have hz9 := HB9.out.size
          have HX9 := Lib.hid ((BxI.new wq 70 #[.slice S' ej.whn.length c', .int .i64 vn, .int .i64 ej.val]).up hb9)
          have HN9 := Lib.hid (own_kb1 HNR.out (Kb.of_below (bad := fun _ => False) HB9.out) (fun _ _ h => h))
          have y1 := HX9.out.cell 1 _ rfl
          have y2 := HX9.out.cell 2 _ rfl
          clear hb9 j0 j1 j2
          cases hh : hoB ej.whn s
          · have HAP := Lib.hid (show apE s es (j + 1) = apE s es j from apE_no (by rw [← HEJ.out]; exact hh))
            go_wp2_with fail
            go_roundw
            case rel => exact ⟨j + 1, rfl, by omega, Lib.hid (by rw [HAP.out]; exact HN9.out), Lib.hid (HEQ.out.trans (HB9.out.mono hzq))⟩
            case measure => simp [RowKit.intOf]; omega
          · have HAP := Lib.hid (show apE s es (j + 1) = (apE s es j).set vn ej.val from by rw [apE_set (t := t) (by rw [← HEJ.out]; exact hh), ← HEJ.out, HVN.out]; rfl)
            obtain ⟨ng, rfl, hng1, hng2, _⟩ := own_frozen' HN9.out (by omega)
            go_wp2_with (refine wpList_store1 (by rfl) 3 _ _ (by rfl) ng vn (.int .i64 ej.val) (by rfl) (by rfl) (by rfl) (there_own HN9.out (by omega)) (by kernel_rfl) rfl ?_; intro wy HWY)
            go_roundw
            case rel => exact ⟨j + 1, rfl, by omega, Lib.hid (by rw [HAP.out, ← ic_set, HWY.out]; exact own_setAt2 HN9.out _), Lib.hid (by rw [HWY.out]; exact (HEQ.out.trans (HB9.out.mono hzq)).setCell (p := ⟨ng, vn, none⟩) hng1 _)⟩
            case measure => simp [RowKit.intOf]; omega
        · obtain rfl : j = es.length := by omega
          have hnx : apE s es es.length = nxt t s o := by unfold nxt; rw [← HES.out]
          rw [hnx] at HNR
          have HOWq := Lib.hid (own_kb1 HOW.out (Kb.of_below (bad := fun _ => False) HEQ.out) (fun _ _ h => h))
          have hslN := HNR.out.1
          clear hnx hslN
          go_wp2_with (at_builtin; refine wpList_append_src (by rfl) _ _ 54 (by rfl) w1.heap.size 57 is (.agg #[.int .i64 0, .slice none 0 0]) 2 32 qundSu su1 su2 su3 su4 rfl (by decide) (.slice OA i OC) i xs (by rfl) (by exact HOWq.out.alloc _) (some ⟨wr.heap.size, 0, none⟩) 1 1 [.int .i64 (o : Nat), .slice NA s.length NC] (by rfl) (src_of (heap_alloc_new wr _) rfl (by intro u hu; simp at hu; rcases hu with rfl | rfl <;> rfl)) (by unfold maxLen; omega) (by omega) (by first | omega | (simp; done) | (simp; omega)) ?_; intro v12 w12 hown12 hgrow12 hat12; obtain ⟨A12, c12, rfl⟩ := own_shape hown12; have HO12 := Lib.hid hown12; have HG12 := Lib.hid hgrow12; have HA12 := Lib.hid hat12; clear hown12 hgrow12 hat12)
          go_roundw
          case rel =>
            have hs12 : (wr.alloc (.cells #[.int .i64 (o : Nat), .slice NA s.length NC] 57)).heap.size = wr.heap.size + 1 := by simp
            have KG : Kb (fun b => (Value.slice OA i OC).ownBlock = some b) wr w12 := (kb_alloc wr _ _).trans (kb_grown HG12.out)
            have hat : ∀ b, (Value.slice A12 (i + 1) c12).ownBlock = some b → (Value.slice OA i OC).ownBlock = some b ∨ wr.heap.size ≤ b := fun b hb => by
              rcases HA12.out with h1 | h1
              · exact .inl (h1 ▸ hb)
              · rw [h1] at hb; injection hb with hb; exact .inr (by omega)
            have MV : Moves wr w12 (fun b => b < w1.heap.size ∨ (Value.slice OA i OC).ownBlock = some b) (fun b => b < w1.heap.size ∨ (Value.slice A12 (i + 1) c12).ownBlock = some b) := Moves.of_kb KG (fun b _ h => .inr h) (fun b hb h => by
              rcases h with h | h
              · exact .inl h
              · rcases hat b h with h | h
                · exact .inr h
                · omega)
            have f1 := (own_intk2 (bad := fun b => b < w1.heap.size ∨ (Value.slice OA i OC).ownBlock = some b) (l := nxt t s o) (by rw [nxt_len]; exact HNR.out) (by rw [nxt_len]; omega) (by
              rw [nxt_len]
              intro g hg h
              rcases h with h | h
              · have := (HNR.out.lt g hg).1; omega
              · obtain ⟨cur, hc⟩ := own_blk HNR.out hg
                obtain ⟨cur2, hc2⟩ := own_blk HOWq.out h
                rw [hc] at hc2; simp at hc2)).move MV
            have f2 := (HSU.out.move (Moves.up HEQ.out)).move MV
            rw [HOO.out] at f1
            have f3 := f2.push (c' := NC) f1
            rw [← HOO.out] at f3
            exact ⟨i + 1, A12, c12, _, rfl, rfl, by omega, Lib.hid HO12.out, Lib.hid f3, Lib.hid (((HE.out.trans (HEQ.out.mono hzr)).alloc (by omega) _).grown HG12.out (by omega) (fun b hb => (HOW.out.lt b hb).1))⟩
          case measure => simp [RowKit.intOf]; omega
    · obtain rfl : i = n := by omega
      go_wp2_with fail
      refine bodyPost_ret (v := .slice OA i OC) (by simp [results, Tryz.results17, go_sem, ↓IntWalk.iteOmega, *]) rfl ⟨⟨OA, OC, rfl, fun w2 k2 h0 => ?_⟩, HEW.out⟩
      rw [← HN.out] at h0 ⊢
      have hsu := HSU.out.move (Moves.of_kb (bad' := fun _ => False) k2 (fun b _ h => by have h : b < w.heap.size := h; exact .inl (by omega)) (fun _ _ h => h.elim))
      have how := own_kb1 HOW.out k2 (fun b hb e => by have := (HOW.out.lt b hb).1; have e : b < w.heap.size := e; omega)
      obtain ⟨g, rfl, hg1, hg2, _⟩ := own_frozen' how h0
      refine ⟨g, rfl, hg2, fun k hk => ?_⟩
      obtain ⟨h1, A', c', h2, h3⟩ := hsu.2 k hk
      exact ⟨own_cell how h1, A', c', own_cell how h2, h3.at_⟩
end Go.Proofs.YtpobnjbpglaohaaGreat

/- sexpr: Read, walked. -/
import Derived.Test.YtebgaicapjpohaaDoorSfA
namespace Go.Proofs.YtebgaicapjpohaaDoor
set_option linter.unusedSimpArgs false
set_option linter.unusedVariables false
open Go Go.RowKit
set_option linter.unusedVariables false

theorem stk_start (w : World) {O : Obj} : StkAt w.heap.size (w.heap.size + 1) ((w.alloc (.cells #[.int .i64 0, .int .i64 0, .int .i64 0, .int .i64 0, .string ⟨#[]⟩, .slice none 0 0] 34)).alloc O) (.slice (some ⟨w.heap.size, 0, none⟩) 1 1) [⟨Sx.none, .slice none 0 0, []⟩] where
  own := own_below (own_built (B := w.heap.size) w #[.int .i64 0, .int .i64 0, .int .i64 0, .int .i64 0, .string ⟨#[]⟩, .slice none 0 0] 1 (Nat.le_refl _) (by decide) rfl) (by repeat (first | exact Below.refl _ _ | refine below_dN ?_ _ | refine Below.drew ?_ | refine Below.alloc ?_ (by first | omega | (simp; done) | (simp; omega)) _ | refine Below.setCell ?_ (by first | omega | (simp; done) | (simp; omega)) _ | refine below_step (by assumption) (by first | omega | (simp; done) | (simp; omega)) ?_))
  kid := fun o ho => by
    rw [List.mem_singleton] at ho
    subst ho
    exact ⟨rfl, .inl ⟨rfl, rfl⟩⟩
  kis := fun o ho => by
    rw [List.mem_singleton] at ho
    subst ho
    rfl
  aO := fun o ho => by
    rw [List.mem_singleton] at ho
    subst ho
    exact .inr (by simp [Value.ownBlock])
  aK := by simp
  rO := by simp [Value.ownBlock]
  rK := fun o ho => by
    rw [List.mem_singleton] at ho
    subst ho
    simp [Value.ownBlock]

theorem box2 (w : World) (o : Obj) (T : TypeId) (cs : Array Value) : BxI ((w.alloc o).alloc (.cells cs T)) (w.heap.size + 1) T cs := by
  have := BxI.new (w.alloc o) T cs
  rw [World.size_alloc] at this
  exact this
theorem make_sx (w : World) : (Instr.makeSlice 26 (.int .i64 1) (.int .i64 1)).run Tryd.prog w = .ok (.slice (some ⟨w.heap.size, 0, none⟩) 1 1) (w.alloc (.cells #[.int .i64 0, .int .i64 0, .int .i64 0, .int .i64 0, .string ⟨#[]⟩, .slice none 0 0] 34)) := by kernel_rfl

set_option maxRecDepth 20000 in
set_option maxHeartbeats 4000000 in
theorem read_any (s : List UInt8) (w : World) (hmax : s.length ≤ 1000000) : Calls Tryd.prog 8 #[.string (bs s)] w (ReadRet s w) := by
  have hz := bs_size s
  by_cases hl : 65536 < s.length
  · have HE := Lib.hid (show readP s = .inr (0, 0, 5) from read_long s hl)
    obtain ⟨S, hS⟩ : ∃ S, bs s = S := ⟨_, rfl⟩
    rw [hS] at hz
    rw [hS]
    clear hS
    go_enter Tryd.func8, Tryd.ntmps8
    go_wp2
    refine bodyPost_ret (v := .tuple #[.slice none 0 0, .int .i64 0, .int .i64 0, .iface 41 (.int .i64 5)]) (by simp [results, Tryd.results8, go_sem, ↓IntWalk.iteOmega, *]) rfl ⟨by repeat (first | exact Below.refl _ _ | refine below_dN ?_ _ | refine Below.drew ?_ | refine Below.alloc ?_ (by first | omega | (simp; done) | (simp; omega)) _ | refine Below.setCell ?_ (by first | omega | (simp; done) | (simp; omega)) _ | refine below_step (by assumption) (by first | omega | (simp; done) | (simp; omega)) ?_), ?_⟩
    rw [HE.out]
    exact ⟨rfl, by decide⟩
  · have KSK := Lib.hid (fun R k l c n O W hb hk hp => skip_any R s k l c n O W hb hk (by omega) hp)
    have KNX := Lib.hid (fun B R gO cO k l c n os W hb hk hp hn hms h0 hks h hR h1 h2 => next_any B R gO cO s k l c n os W hb hk (by omega) hp hn hms h0 hks h hR h1 h2)
    obtain ⟨S, hS⟩ : ∃ S, bs s = S := ⟨_, rfl⟩
    have HS := Lib.hid hS
    have HRD := Lib.hid (show readP s = runP (s.length + 1) ⟨s.drop 0, ((1 : Int), (1 : Int)), 0, opX [⟨Sx.none, .slice none 0 0, []⟩]⟩ from if_neg hl)
    rw [hS] at hz KSK KNX
    rw [hS]
    clear hS
    have hd0 : decide ((65536 : Int) < (s.length : Int)) = false := by simp; omega
    have mk := make_sx
    go_enter Tryd.func8, Tryd.ntmps8
    go_wp2_with fail
    refine (KSK.out (w.heap.size + 1) 0 1 1 ((0 : Nat) : Int) (.slice (some ⟨w.heap.size, 0, none⟩) 1 1) _ (box2 _ _ _ _) (Nat.zero_le _) (by unfold PosOk; omega)).mono ?_
    intro e wa hsk
    have hst0 := stk_start w (O := .cells #[.string S, .int .i64 0, .int .i64 1, .int .i64 1, .int .i64 0, .slice (some ⟨w.heap.size, 0, none⟩) 1 1] 44)
    obtain ⟨rfl, k0, l0, c0, _, hL0⟩ := lpR_start (R := w.heap.size + 1) (cO := 1) (Nat.le_add_right _ _) (Nat.zero_le _) (by decide) (by simp) (by simp) (fun o ho => by rw [List.mem_singleton] at ho; subst ho; exact Nat.le_refl _) hst0 (by repeat (first | exact Below.refl _ _ | refine below_dN ?_ _ | refine Below.drew ?_ | refine Below.alloc ?_ (by first | omega | (simp; done) | (simp; omega)) _ | refine Below.setCell ?_ (by first | omega | (simp; done) | (simp; omega)) _ | refine below_step (by assumption) (by first | omega | (simp; done) | (simp; omega)) ?_)) HRD.out (by omega) hsk
    have HL0 := Lib.hid hL0
    obtain ⟨R, hR⟩ : ∃ R, w.heap.size + 1 = R := ⟨_, rfl⟩
    rw [hR] at HL0
    have hR' : w.heap.size ≤ R := by omega
    rw [hR]
    clear hst0 hsk hL0 hR
    go_wp2_with fail
    go_loopw [7] (fun v7 wr => ∃ k l c n gO cO os f, Hid (LpR R s w wr k l c n gO cO os f)) (fun _ wr => s.length - atOf R wr)
    case atStart => exact ⟨k0, l0, c0, 0, w.heap.size, 1, _, _, HL0⟩
    case round =>
      clear HL0 HRD
      obtain ⟨k, l, c, n, gO, cO, os, f, HL⟩ := hrel
      obtain ⟨g1, g2, g3, g4, g5, g6, g7, g8, g9, g10, g11, g12⟩ := HL.out
      have HX := Lib.hid g7
      have HST := Lib.hid g8
      have HBW := Lib.hid g9
      have HRR := Lib.hid g10
      have HP := Lib.hid g2
      have HKS := Lib.hid g6
      rw [HS.out] at g7
      have c0 := RdX.c0 g7
      have c1 := RdX.c1 g7
      have c2 := RdX.c2 g7
      have c3 := RdX.c3 g7
      have c5 := RdX.c5 g7
      have HXS := Lib.hid g7
      clear g2 g6 g7 g8 g9 g10
      by_cases hlt : k < s.length
      · have hd1 : decide ((k : Int) < (s.length : Int)) = true := by simp; omega
        obtain ⟨h1, h2⟩ := g12 hlt
        have H1 := Lib.hid h1
        have H2 := Lib.hid h2
        clear h1 h2 g12
        go_wp2_with fail
        refine (KNX.out w.heap.size R gO cO k l c n os _ HXS.out hlt HP.out g3 g4 g5 HKS.out HST.out hR' H1.out H2.out).mono ?_
        intro e w2 hnx
        obtain ⟨hbl, hm⟩ := hnx
        have HBL := Lib.hid (HBW.out.trans hbl)
        have hrun := HRR.out
        rw [run_more hlt] at hrun
        clear hbl
        cases hN : nextP (bt s k) (s.drop (k + 1)) ⟨s.drop k, (l, c), n, opX os⟩ with
        | inr code =>
          rw [hN] at hm hrun
          obtain ⟨rfl, hne, n', O', hx⟩ := hm
          have HRUN := Lib.hid hrun
          have e2 := RdX.c2 hx
          have e3 := RdX.c3 hx
          have HNE := Lib.hid hne
          rw [erV_ne hne]
          clear hx hN hrun hne c0 c1 c2 c3 c5
          go_wp2_with fail
          go_quiet (fail)
          go_wp2
          refine bodyPost_ret (v := .tuple #[.slice none 0 0, .int .i64 l, .int .i64 c, .iface 41 (.int .i64 code)]) (by simp [results, Tryd.results8, go_sem, ↓IntWalk.iteOmega, *]) rfl ⟨HBL.out.trans (by repeat (first | exact Below.refl _ _ | refine below_dN ?_ _ | refine Below.drew ?_ | refine Below.alloc ?_ (by first | omega | (simp; done) | (simp; omega)) _ | refine Below.setCell ?_ (by first | omega | (simp; done) | (simp; omega)) _ | refine below_step (by assumption) (by first | omega | (simp; done) | (simp; omega)) ?_)), ?_⟩
          rw [HRUN.out]
          exact ⟨by rw [erV_ne HNE.out], HNE.out⟩
        | inl t =>
          rw [hN] at hm hrun
          obtain ⟨rfl, k', gO', cO', os', h1, h2, h3, h4, h5, h6, h7, h8, h9, h10, h11⟩ := hm
          have hf : ∃ f', f = f' + 1 := ⟨f - 1, by omega⟩
          obtain ⟨f', rfl⟩ := hf
          have HRUN := Lib.hid (show readP s = runP (f' + 1) ⟨s.drop k', (t.pos.1, t.pos.2), t.nodes, opX os'⟩ by
            rw [hrun]
            show runP (f' + 1) t = _
            rw [← h3, ← h8])
          have HX2 := Lib.hid h10
          have HST2 := Lib.hid h11
          have HP2 := Lib.hid h4
          have HKS2 := Lib.hid h9
          have HX2S := h10
          rw [HS.out] at HX2S
          have HX2T := Lib.hid HX2S
          clear h10 h11 h4 h9 h3 h8 HX2S hN hrun c0 c1 c2 c3 c5
          go_wp2_with fail
          refine (KSK.out R k' t.pos.1 t.pos.2 t.nodes _ _ HX2T.out h2 HP2.out).mono ?_
          intro e w3 hsk
          obtain ⟨rfl, k2, l2, c2, hk2, hL2⟩ := lpR_start hR' h2 h5 h6 h7 HKS2.out HST2.out HBL.out HRUN.out (by omega) hsk
          have HL2 := Lib.hid hL2
          clear hL2 hsk
          go_wp2
          go_roundw
          case rel => exact ⟨k2, l2, c2, _, gO', cO', os', f', HL2⟩
          case measure =>
            have m1 := RdX.at0 HL2.out.2.2.2.2.2.2.1
            have m2 := RdX.at0 HX.out
            omega
      · obtain rfl : k = s.length := by omega
        have hrun := HRR.out
        rw [List.drop_length] at hrun
        have hst := HST.out
        have hd1 : decide ((s.length : Int) < (s.length : Int)) = false := by simp
        obtain ⟨init, o, rfl⟩ : ∃ init o, os = init ++ [o] := by
          rcases List.eq_nil_or_concat os with e | ⟨a, b, e⟩
          · exact absurd e g5
          · exact ⟨a, b, by simpa using e⟩
        have hl2 : (init ++ [o]).length = init.length + 1 := by simp
        rw [hl2] at c5 hst g4
        obtain ⟨m, hm⟩ : ∃ m, init.length = m := ⟨_, rfl⟩
        rw [hm] at c5 hst g4
        have hown := hst.own
        rw [hl2, hm] at hown
        obtain ⟨x, K, ks⟩ := o
        obtain ⟨kk, vv, ll, cc, tt, kids⟩ := x
        have q2 := own_cell hown (i := m * 6 + 2) (u := .int .i64 ll) ((opCells_at (j := 2) hm (by decide)).trans rfl)
        have q3 := own_cell hown (i := m * 6 + 3) (u := .int .i64 cc) ((opCells_at (j := 3) hm (by decide)).trans rfl)
        have q5 := own_cell hown (i := m * 6 + 5) (u := K) ((opCells_at (j := 5) hm (by decide)).trans rfl)
        have HM := Lib.hid hm
        have HH := Lib.hid hst
        clear hm hl2 hst hown g5 g12 c2 c3 HX HST HKS HXS
        rw [opX_app] at hrun
        by_cases hm0 : m = 0
        · subst hm0
          have hi0 : init = [] := List.length_eq_zero_iff.1 HM.out
          subst hi0
          have HRUN := Lib.hid (show readP s = .inl kids from hrun)
          obtain ⟨AK, cK, hK⟩ := own_shape (HH.out.kid ⟨.mk kk vv ll cc tt kids, K, ks⟩ (by simp))
          dsimp only [Sx.kids] at hK
          have HGOT := Lib.hid (show GotSx wr K kids from gotSx_of (op_sx (o := ⟨.mk kk vv ll cc tt kids, K, ks⟩) (HH.out.kid _ (by simp)) (KidsIs.move (Moves.mono fun _ _ h => h.elim) _ _ (HH.out.kis _ (by simp))) (fun _ _ h => h)))
          subst hK
          clear hrun
          go_wp2
          refine bodyPost_ret (v := .tuple #[.slice AK kids.length cK, .int .i64 0, .int .i64 0, .nilIface]) (by simp [results, Tryd.results8, go_sem, ↓IntWalk.iteOmega, *]) rfl ⟨HBW.out, ?_⟩
          rw [HRUN.out]
          exact ⟨_, rfl, HGOT.out⟩
        · have HRUN := Lib.hid (show readP s = .inr (ll, cc, 2) by
            rw [hrun]
            obtain ⟨y, q, e⟩ : ∃ y q, opX init = y :: q := by
              cases h : opX init with
              | nil =>
                have : (opX init).length = 0 := by rw [h]; rfl
                unfold opX at this
                simp at this
                have h9 := HM.out
                rw [this] at h9
                exact absurd h9.symm hm0
              | cons y q => exact ⟨y, q, rfl⟩
            rw [e]
            rfl)
          have hm1 : decide ((1 : Int) < ((m + 1 : Nat) : Int)) = true := by simp; omega
          have hm2 : 1 ≤ m := by omega
          have hcO : True := trivial
          clear hrun hm0
          go_wp2_with fail
          go_quiet (fail)
          go_wp2
          refine bodyPost_ret (v := .tuple #[.slice none 0 0, .int .i64 ll, .int .i64 cc, .iface 41 (.int .i64 2)]) (by simp [results, Tryd.results8, go_sem, ↓IntWalk.iteOmega, *]) rfl ⟨HBW.out.trans (by repeat (first | exact Below.refl _ _ | refine below_dN ?_ _ | refine Below.drew ?_ | refine Below.alloc ?_ (by first | omega | (simp; done) | (simp; omega)) _ | refine Below.setCell ?_ (by first | omega | (simp; done) | (simp; omega)) _ | refine below_step (by assumption) (by first | omega | (simp; done) | (simp; omega)) ?_)), ?_⟩
          rw [HRUN.out]
          exact ⟨rfl, by decide⟩
end Go.Proofs.YtebgaicapjpohaaDoor

/- sexpr: next at a closing parenthesis, walked. -/
import Derived.Test.YtebgaicapjpohaaDoorSeY
namespace Go.Proofs.YtebgaicapjpohaaDoor
set_option linter.unusedSimpArgs false
set_option linter.unusedVariables false
open Go Go.RowKit
set_option linter.unusedVariables false

theorem opCells_at {init : List Op1} {o : Op1} {m j : Nat} (hm : init.length = m) (hj : j < 6) : (opCells (init ++ [o]))[m * 6 + j]? = o.cells[j]? := by
  rw [opCells_app, List.getElem?_append_right (by rw [opCells_len]; omega), opCells_len, hm, Nat.add_sub_cancel_left]
  unfold opCells
  rw [List.map_singleton, List.flatten_cons, List.flatten_nil, List.append_nil]

set_option maxRecDepth 20000 in
set_option maxHeartbeats 4000000 in
theorem next_close_any (B R gO m cO : Nat) (s : List UInt8) (k : Nat) (l c : Int) (n : Nat) (init : List Op1) (o : Op1) (w : World)
    (hb : RdX w R (bs s) k l c n (.slice (some ⟨gO, 0, none⟩) (m + 1) cO)) (hk : k < s.length) (hs : s.length ≤ 65536) (hp : PosOk k l c) (hn : n ≤ 4096) (hm : init.length = m) (hms : m ≤ 32) (hks : ∀ o' ∈ init ++ [o], o'.x.kids.length ≤ k)
    (h : StkAt B R w (.slice (some ⟨gO, 0, none⟩) (m + 1) cO) (init ++ [o])) (hR : B ≤ R) (h1 : bt s k = 41) :
    Calls Tryd.prog 15 #[.pointer (some ⟨R, 0, none⟩)] w (NxtRet B R s k l c (nextP (bt s k) (s.drop (k + 1)) ⟨s.drop k, (l, c), n, opX (init ++ [o])⟩) w) := by
  obtain ⟨res, hres⟩ : ∃ res, nextP (bt s k) (s.drop (k + 1)) ⟨s.drop k, (l, c), n, opX (init ++ [o])⟩ = res := ⟨_, rfl⟩
  rw [hres]
  have hres2 : res = match opX (init ++ [o]) with
      | x :: y :: q => .inl ⟨s.drop (k + 1), (l, c + 1), n, y.push x :: q⟩
      | _ => .inr 2 := by
    rw [← hres, h1]
    unfold nextP
    rw [if_neg (by decide), if_pos rfl, tk_step (by decide)]
    rfl
  have rlt := hb.lt
  have hz := bs_size s
  have hget : (bs s)[k]'(by omega) = bt s k := bs_get s k (by omega)
  have KST := Lib.hid (fun (n : Int) O W (h : RdX W R (bs s) k l c n O) => step_any R s k l c n O W h hk hs hp.1 (by unfold PosOk at hp; omega) hp.2.2.1 (by unfold PosOk at hp; omega))
  rw [h1, tk_step (by decide)] at KST
  dsimp only at KST
  have KAD := Lib.hid (fun m init o (n : Int) kk vv ll cc t kids A cap W hb hm hms hks h hx => add_any B R gO m cO (bs s) k l c n init o kk vv ll cc t kids A cap W hb hm hms hks h hx)
  obtain ⟨S, hS⟩ : ∃ S, bs s = S := ⟨_, rfl⟩
  have hkS : k < S.size := by subst hS; omega
  have hget' : S[k] = bt s k := by subst hS; exact hget
  have HS := Lib.hid hS
  rw [hS] at hb KST hz KAD
  have h1' : S[k].toNat = 41 := by rw [hget', h1]; rfl
  have hd1 : decide ((S[k].toNat : Int) = 40) = false := by simp; omega
  have hd2 : decide ((S[k].toNat : Int) = 41) = true := by simp; omega
  have c0 := RdX.c0 hb
  have c1 := RdX.c1 hb
  have c5 := RdX.c5 hb
  have HB := Lib.hid hb
  have H := Lib.hid h
  have HK := Lib.hid hks
  have HP := Lib.hid hp
  have HM := Lib.hid hm
  have HRES := Lib.hid hres2
  have hBw : B ≤ w.heap.size := by omega
  clear hres hres2 hget hget' hS hb hks hp h1
  by_cases hm0 : m = 0
  · subst hm0
    have HE := Lib.hid (show res = .inr 2 by
      have e : init = [] := List.length_eq_zero_iff.1 HM.out
      rw [HRES.out, e]
      rfl)
    clear h
    go_enter Tryd.func15, Tryd.ntmps15
    go_wp2_with fail
    go_quiet (fail)
    go_wp2
    refine bodyPost_ret (v := .iface 41 (.int .i64 2)) (by simp [results, Tryd.results15, go_sem, ↓IntWalk.iteOmega, *]) rfl ?_
    rw [HE.out]
    exact ⟨by repeat (first | exact Below.refl _ _ | refine below_dN ?_ _ | refine Below.drew ?_ | refine Below.alloc ?_ (by first | omega | (simp; done) | (simp; omega)) _ | refine Below.setCell ?_ (by first | omega | (simp; done) | (simp; omega)) _ | refine below_step (by assumption) (by first | omega | (simp; done) | (simp; omega)) ?_), rfl, by decide, _, _, by rw [HS.out]; exact HB.out.up (by repeat (first | exact Below.refl _ _ | refine below_dN ?_ _ | refine Below.drew ?_ | refine Below.alloc ?_ (by first | omega | (simp; done) | (simp; omega)) _ | refine Below.setCell ?_ (by first | omega | (simp; done) | (simp; omega)) _ | refine below_step (by assumption) (by first | omega | (simp; done) | (simp; omega)) ?_))⟩
  · have hown := h.own
    rw [show (init ++ [o]).length = m + 1 by simp [hm]] at hown
    obtain ⟨init', p, rfl⟩ : ∃ init' p, init = init' ++ [p] := by
      rcases List.eq_nil_or_concat init with e | ⟨a, b, e⟩
      · subst e; exact absurd hm.symm hm0
      · exact ⟨a, b, by simpa using e⟩
    have HE := Lib.hid (show res = .inl ⟨s.drop (k + 1), (l, c + 1), n, p.x.push o.x :: opX init'⟩ by
      rw [HRES.out, opX_app, opX_app])
    obtain ⟨x, K, ks⟩ := o
    obtain ⟨kk, vv, ll, cc, tt, kids⟩ := x
    obtain ⟨AK, cK, hK⟩ := own_shape (h.kid ⟨.mk kk vv ll cc tt kids, K, ks⟩ (by simp))
    dsimp only [Sx.kids] at hK
    subst hK
    have q0 := own_cell hown (i := m * 6) (u := .int .i64 kk) ((opCells_at (j := 0) hm (by decide)).trans rfl)
    have q1 := own_cell hown (i := m * 6 + 1) (u := .int .i64 vv) ((opCells_at (j := 1) hm (by decide)).trans rfl)
    have q2 := own_cell hown (i := m * 6 + 2) (u := .int .i64 ll) ((opCells_at (j := 2) hm (by decide)).trans rfl)
    have q3 := own_cell hown (i := m * 6 + 3) (u := .int .i64 cc) ((opCells_at (j := 3) hm (by decide)).trans rfl)
    have q4 := own_cell hown (i := m * 6 + 4) (u := .string (bs tt)) ((opCells_at (j := 4) hm (by decide)).trans rfl)
    have q5 := own_cell hown (i := m * 6 + 5) (u := .slice AK kids.length cK) ((opCells_at (j := 5) hm (by decide)).trans rfl)
    have hcO : m + 1 ≤ cO := by
      rcases hown.2 with ⟨h0, _⟩ | ⟨g, cap, cur, h0, hb, hg, hnc, _⟩
      · cases h0
      · injection h0 with _ _ h3; omega
    have f5 := HB.out.fz 5
    have hd3 : ¬ (m : Int) = 0 := by omega
    have HM0 := Lib.hid hm0
    have glt := (hown.lt gO rfl).2
    clear h hown hm hm0
    go_enter Tryd.func15, Tryd.ntmps15
    go_wp2_with fail
    go_quiet (fail)
    go_wp2_with (refine wpList_store6 (by rfl) 34 _ _ (by rfl) w.heap.size 0 (.int .i64 kk) (.int .i64 vv) (.int .i64 ll) (.int .i64 cc) (.string (bs tt)) (.slice AK kids.length cK) (by rfl) (by rfl) (there_blk (heap_alloc_new _ _) (Nat.le_refl 6)) qsizeSx (six_one rfl rfl rfl rfl rfl rfl) ?_; intro wx HWX; have HBX := Lib.hid (show Below w.heap.size w wx by rw [HWX.out]; refine below_set6 ?_ (Nat.le_refl _); repeat (first | exact Below.refl _ _ | refine below_dN ?_ _ | refine Below.drew ?_ | refine Below.alloc ?_ (by first | omega | (simp; done) | (simp; omega)) _ | refine Below.setCell ?_ (by first | omega | (simp; done) | (simp; omega)) _ | refine below_step (by assumption) (by first | omega | (simp; done) | (simp; omega)) ?_)); have HX := Lib.hid (show BxI wx w.heap.size 34 #[.int .i64 kk, .int .i64 vv, .int .i64 ll, .int .i64 cc, .string (bs tt), .slice AK kids.length cK] by rw [HWX.out]; exact BxI.set6 (BxI.new _ _ _)); have HRX := Lib.hid (HB.out.up HBX.out); have e5 := RdX.c5 HRX.out; have g5 := HRX.out.fz 5; have d0 := HX.out.cell 0 _ rfl; have d1 := HX.out.cell 1 _ rfl; have d2 := HX.out.cell 2 _ rfl; have d3 := HX.out.cell 3 _ rfl; have d4 := HX.out.cell 4 _ rfl; have d5 := HX.out.cell 5 _ rfl)
    obtain ⟨wz, hwz⟩ : ∃ wz, wx.setCell ⟨R, 5, none⟩ (.slice (some ⟨gO, 0, none⟩) m cO) = wz := ⟨_, rfl⟩
    have HXZ := Lib.hid (show RdX wz R S k l c n (.slice (some ⟨gO, 0, none⟩) m cO) by rw [← hwz]; exact RdX.s5 HRX.out _)
    have HKZ := Lib.hid (show Kb (fun g => g = R) wx wz by rw [← hwz]; exact (Kb.refl (fun g => g = R) wx).set (p := ⟨R, 5, none⟩) (.inl rfl) _)
    obtain ⟨hst, hsx⟩ := StkAt.pop ((H.out.up HBX.out).box HKZ.out) HM.out
    have HST := Lib.hid hst
    have HSX := Lib.hid hsx
    rw [hwz]
    clear hwz hst hsx
    obtain ⟨m', hm'⟩ : ∃ m', m = m' + 1 := ⟨m - 1, by omega⟩
    subst hm'
    have hki := HK.out p (by simp)
    have hl' : init'.length = m' := by have := HM.out; simp at this; omega
    refine (KAD.out m' init' p n kk vv ll cc tt kids AK cK _ HXZ.out hl' (by omega) (by omega) HST.out HSX.out).mono ?_
    rintro e wa ⟨rfl, ⟨K', hxa, hstka⟩, hkba⟩
    have HXA := Lib.hid hxa
    have HSTA := Lib.hid hstka
    have HBA := Lib.hid (show Below B w wa from ((HBX.out.mono hBw).trans (HKZ.out.below (fun b hb e => by omega) (Nat.le_trans hBw HBX.out.size))).trans (hkba.below (HST.out.low hR) (Nat.le_trans hBw (Nat.le_trans HBX.out.size HKZ.out.size))))
    clear hxa hstka hkba d0 d1 d2 d3 d4 d5 e5 g5 f5 q0 q1 q2 q3 q4 q5 c0 c1 c5
    go_wp2_with fail
    refine (KST.out _ _ _ HXA.out).mono ?_
    rintro e w3 ⟨rfl, hx3, hk3⟩
    have HX3 := Lib.hid hx3
    have HK3 := Lib.hid hk3
    clear hx3 hk3
    go_wp2
    refine bodyPost_ret (v := .nilIface) (by simp [results, Tryd.results15, go_sem, ↓IntWalk.iteOmega, *]) rfl ?_
    rw [HE.out]
    have hl : ∀ o' : Op1, (init' ++ [o']).length = m' + 1 := fun o' => by simp [hl']
    refine ⟨HBA.out.trans (HK3.out.below (fun b hb e => by omega) (Nat.le_trans hBw HBA.out.size)), rfl, k + 1, gO, cO, init' ++ [⟨p.x.push (.mk kk vv ll cc tt kids), K', p.ks ++ [.int .i64 kk, .int .i64 vv, .int .i64 ll, .int .i64 cc, .string (bs tt), .slice AK kids.length cK]⟩], by omega, by omega, rfl, PosOk.far HP.out 1 rfl, hn, by rw [hl]; omega, by simp, by rw [opX_app], ?_, ?_, ?_⟩
    · intro o' ho'
      rw [List.mem_append, List.mem_singleton] at ho'
      rcases ho' with ho' | ho'
      · have := HK.out o' (by simp [ho']); omega
      · subst ho'
        show (p.x.kids ++ [_]).length ≤ _
        rw [List.length_append, List.length_singleton]
        omega
    · rw [hl, HS.out]; exact HX3.out
    · rw [hl]; exact HSTA.out.box HK3.out
end Go.Proofs.YtebgaicapjpohaaDoor

/- stratagemtop: WholeStates, walked. -/
import Derived.Test.YtpobnjbpglaohaaGreatWgA
import Derived.Test.YtpobnjbpglaohaaGreatWuE
import Derived.Deep.CutBlock
import Derived.WalkKit
import Derived.RowKitTokens
namespace Go.Proofs.YtpobnjbpglaohaaGreat
set_option linter.unusedSimpArgs false
set_option linter.unusedVariables false
open Go Go.RowKit Go.Maps
set_option linter.unusedVariables false

theorem ints_box {w : World} {g : Nat} {s : List Int} (h : BxI w g 3 (ic s).toArray) (hl : s.length ≤ 140737488355328) : IntsAt w w.heap.size (some ⟨g, 0, none⟩) s :=
  ⟨hl, fun _ => ⟨g, 0, rfl, h.lt, fun k hk => by rw [Nat.zero_add]; exact h.cell k _ (by have := ic_get hk; simpa using this)⟩⟩
theorem rowx_box {w : World} {g m : Nat} {T : TypeId} {xs : List Value} (h : BxI w g T xs.toArray) : RowX w w.heap.size (some ⟨g, 0, none⟩) m xs :=
  fun _ => ⟨g, 0, rfl, h.lt, fun j u hj => by rw [Nat.zero_add]; exact h.cell j u (by simpa using hj)⟩
set_option maxRecDepth 20000 in
set_option maxHeartbeats 16000000 in
theorem wholeStates_any (t : Tsk) (p : Lies) (w : World) (ht : TaskAt w w.heap.size t p) :
    Calls Tryz.prog 3 #[TaskV t p] w fun e w' => e = .returned (.bool true) ∧ Below w.heap.size w w' := by
  have KS := fun W (k : Below w.heap.size w W) => small_any t p W (ht.up k)
  have HT := Lib.hid ht
  clear ht
  cases hsm : smB t
  · rw [hsm] at KS
    have KS := Lib.hid KS
    obtain ⟨pav, pai, pag, pao, pcv, pci, pcg, pco⟩ := p
    unfold TaskV at KS
    unfold TaskV
    dsimp only at KS
    dsimp only
    clear hsm
    go_enter Tryz.func3, Tryz.ntmps3
    go_wp2_with fail
    refine (KS.out _ (by repeat (first | exact Below.refl _ _ | refine below_dN ?_ _ | refine Below.drew ?_ | refine Below.alloc ?_ (by first | omega | (simp; done) | (simp; omega)) _ | refine Below.setCell ?_ (by first | omega | (simp; done) | (simp; omega)) _ | refine below_step (by assumption) (by first | omega | (simp; done) | (simp; omega)) ?_))).mono ?_
    rintro e w1 ⟨rfl, hb1⟩
    have HB1 := Lib.hid (show Below w.heap.size w w1 from below_step hb1 (show w.heap.size ≤ _ by simp) (show Below w.heap.size w _ by repeat (first | exact Below.refl _ _ | refine below_dN ?_ _ | refine Below.drew ?_ | refine Below.alloc ?_ (by first | omega | (simp; done) | (simp; omega)) _ | refine Below.setCell ?_ (by first | omega | (simp; done) | (simp; omega)) _ | refine below_step (by assumption) (by first | omega | (simp; done) | (simp; omega)) ?_)))
    clear hb1
    go_wp2_with fail
    refine (statesAwake_any _).mono ?_
    rintro e w2 ⟨rfl, hb2⟩
    have HB2 := Lib.hid (show Below w1.heap.size w1 w2 from below_step hb2 (show w1.heap.size ≤ _ by simp) (show Below w1.heap.size w1 _ by repeat (first | exact Below.refl _ _ | refine below_dN ?_ _ | refine Below.drew ?_ | refine Below.alloc ?_ (by first | omega | (simp; done) | (simp; omega)) _ | refine Below.setCell ?_ (by first | omega | (simp; done) | (simp; omega)) _ | refine below_step (by assumption) (by first | omega | (simp; done) | (simp; omega)) ?_)))
    clear hb2
    go_wp2_with fail
    go_ret
    exact ⟨rfl, HB1.out.trans (HB2.out.mono HB1.out.size)⟩
  have hS := small_of hsm
  have hr := hS.right
  rw [hsm] at KS
  have HS := Lib.hid hS
  have HR := Lib.hid hr
  have hlim : (sts t.vars).length ≤ 512 := by have h1 := sts_len hr; have h2 := hS.many; omega
  have KX := Lib.hid (fun W (k : Below w.heap.size w W) => explore_any t p W 512 (HT.out.up k) hS (.inl rfl) hlim)
  have KG := Lib.hid (fun W (k : Below w.heap.size w W) => gnew_any t p W (HT.out.up k) hr hS.chk)
  have KR := Lib.hid (fun W (k : Below w.heap.size w W) => rnew_any t.vars p.av p.cv W (HT.out.vars.up k) hr.dom hr.nv)
  have KP := Lib.hid (fun W (k : Below w.heap.size w W) => pnew_any t.vars p.av p.cv W (HT.out.vars.up k) hr.dom hr.nv)
  have hst0 := stB_P hr.init
  have HIL := Lib.hid hst0.1
  have HST0 := Lib.hid hst0
  have KS := Lib.hid KS
  obtain ⟨ied, ed1, ed2, ed3, ed4⟩ := info_parts qinfEd
  obtain ⟨pav, pai, pag, pao, pcv, pci, pcg, pco⟩ := p
  unfold TaskV at KS KX KG
  unfold TaskV
  dsimp only at KS KX KG KR KP
  dsimp only
  clear hsm hS hr hst0 hlim
  go_enter Tryz.func3, Tryz.ntmps3
  go_wp2_with fail
  refine (KS.out _ (by repeat (first | exact Below.refl _ _ | refine below_dN ?_ _ | refine Below.drew ?_ | refine Below.alloc ?_ (by first | omega | (simp; done) | (simp; omega)) _ | refine Below.setCell ?_ (by first | omega | (simp; done) | (simp; omega)) _ | refine below_step (by assumption) (by first | omega | (simp; done) | (simp; omega)) ?_))).mono ?_
  rintro e w1 ⟨rfl, hb1⟩
  have HB1 := Lib.hid (show Below w.heap.size w w1 from below_step hb1 (show w.heap.size ≤ _ by simp) (show Below w.heap.size w _ by repeat (first | exact Below.refl _ _ | refine below_dN ?_ _ | refine Below.drew ?_ | refine Below.alloc ?_ (by first | omega | (simp; done) | (simp; omega)) _ | refine Below.setCell ?_ (by first | omega | (simp; done) | (simp; omega)) _ | refine below_step (by assumption) (by first | omega | (simp; done) | (simp; omega)) ?_)))
  have HX1 := Lib.hid ((BxI.new w 26 #[.slice pav t.vars.length pcv, .slice pai t.init.length pci, .slice pag t.goal.length pcg, .slice pao t.ops.length pco]).up hb1)
  have hz1 : w.heap.size + 1 ≤ w1.heap.size := by have := hb1.size; simpa using this
  clear hb1
  go_wp2_with fail
  refine (statesAwake_any _).mono ?_
  rintro e w2 ⟨rfl, hb2⟩
  have HB2 := Lib.hid (HB1.out.trans (hb2.mono HB1.out.size))
  have HX2 := Lib.hid (HX1.out.up hb2)
  have hz2 := hb2.size
  clear hb2
  have hx2 := HX2.out.lt
  have y0 := HX2.out.cell 0 _ rfl
  have y1 := HX2.out.cell 1 _ rfl
  have y2 := HX2.out.cell 2 _ rfl
  have y3 := HX2.out.cell 3 _ rfl
  go_wp2_with fail
  refine (KX.out _ HB2.out).mono ?_
  rintro e w3 ⟨⟨X, n, rfl, hend, hsp⟩, hb3⟩
  have HEND := Lib.hid hend
  have HSP3 := Lib.hid hsp
  have HB23 := Lib.hid hb3
  have HB3 := Lib.hid (HB2.out.trans (hb3.mono HB2.out.size))
  have HX3 := Lib.hid (HX2.out.up hb3)
  have hz3 := hb3.size
  clear hend hsp hb3 y0 y1 y2 y3
  have hx3 := HX3.out.lt
  have y0 := HX3.out.cell 0 _ rfl
  have y1 := HX3.out.cell 1 _ rfl
  have y2 := HX3.out.cell 2 _ rfl
  have y3 := HX3.out.cell 3 _ rfl
  go_wp2_with fail
  refine (KG.out _ HB3.out).mono ?_
  rintro e w4 ⟨⟨G, rfl, hg⟩, hb4⟩
  have HG4 := Lib.hid hg
  have HSP4 := Lib.hid (HSP3.out.up hb4)
  have HB4 := Lib.hid (HB3.out.trans (hb4.mono HB3.out.size))
  have HX4 := Lib.hid (HX3.out.up hb4)
  have hz4 := hb4.size
  clear hg hb4 y0 y1 y2 y3
  have hx4 := HX4.out.lt
  have y0 := HX4.out.cell 0 _ rfl
  go_wp2_with fail
  refine (KR.out _ HB4.out).mono ?_
  rintro e w5 ⟨⟨R, q, mb, B, rfl, hB, hreg⟩, hb5⟩
  have HB45 := Lib.hid hb5
  have HREG5 := Lib.hid (show RegC w5 B R q mb (.slice none 0 0) #[] (pkF t) (pkN t) [] [] (fun _ => 0) from hreg)
  have HB5 := Lib.hid (HB4.out.trans (hb5.mono HB4.out.size))
  have HX5 := Lib.hid (HX4.out.up hb5)
  have hz5 := hb5.size
  clear hreg hb5 y0
  have hx5 := HX5.out.lt
  have y0 := HX5.out.cell 0 _ rfl
  go_wp2_with fail
  refine (KP.out _ HB5.out).mono ?_
  rintro e w6 ⟨⟨P, rfl, hpk⟩, hb6⟩
  have HPK := Lib.hid (show PkAt w6 (fun b => b < w5.heap.size) P (pkF t) (pkN t) from hpk)
  have HB56 := Lib.hid hb6
  have HB6 := Lib.hid (HB5.out.trans (hb6.mono HB5.out.size))
  have HX6 := Lib.hid (HX5.out.up hb6)
  have hz6 := hb6.size
  have HREG6 := Lib.hid (HREG5.out.keep (Kb.of_below (bad := fun _ => False) hb6) (fun _ hc => hc.elim) (fun _ hc => hc.elim) (fun _ hc => hc.elim))
  have hBs : B ≤ w5.heap.size := Nat.le_trans HREG5.out.ge.1 (Nat.le_of_lt HREG5.out.box.lt)
  have HSI6 := Lib.hid (show StI w6 w5 w6 w5.heap.size B R q mb t [] [] (.slice none 0 0) #[] [] (fun _ => 0) none 0 from
    { reg := HREG6.out, ed := World.ownsRow_nil _ _ _ _, low := HB56.out.mono hBs, kc := Kb.refl _ _, rw := fun b _ hr => (HREG5.out.types hr).2.1, bx := by omega, sx := hz6 })
  clear hpk hb6 y0
  have hx6 := HX6.out.lt
  have y1 := HX6.out.cell 1 _ rfl
  have KA := Lib.hid (radd2_any HR.out HREG6.out ⟨List.nodup_nil, fun s hs => by cases hs⟩ t.init pai pci (HT.out.init.up HB6.out) HST0.out (by simp))
  have hI0 : idS [] t.init = 0 := rfl
  rw [hI0] at KA
  go_wp2_with fail
  refine KA.out.mono ?_
  rintro e w7 ⟨fr, RE, es, L, wb, rfl, hk7, hreg7, hrow7, hf1, hf2⟩
  have HSI7 := Lib.hid (HSI6.out.add hk7 hreg7 hrow7)
  have hfr : fr = true := by
    cases fr
    · have := (hf2 rfl).2
      simp [adS] at this
    · rfl
  subst hfr
  have HL7 := Lib.hid (hf1 rfl).1
  clear hk7 hreg7 hrow7 hf1 hf2 KA y1
  go_wp2_with fail
  go_loopw [14, 15] (fun v14 v15 wr => ∃ (i : Nat) (RE : Value) (es : Array MapEntry) (L : List (Int × Int × Int)) (wb : Nat → Nat) (EA : Option Addr) (EC : Nat), v14 = .slice EA (bfs t i).2.length EC ∧ v15 = .int .i64 i ∧ i ≤ (bfs t i).1.length ∧ Hid (∀ k, k < i → k < (bfs t k).1.length) ∧ Hid (StI wr w5 w6 w5.heap.size B R q mb t (bfs t i).1 (bfs t i).2 RE es L wb EA EC) ∧ Hid (LinkOk t (bfs t i).1 L)) (fun _ v _ => 513 - (RowKit.intOf v).toNat)
  case atStart =>
    obtain ⟨e1, e2⟩ := bfs_zero t
    refine ⟨0, RE, es, L, wb, none, 0, rfl, rfl, Nat.zero_le _, Lib.hid (fun k hk => absurd hk (Nat.not_lt_zero _)), by rw [e1, e2]; exact HSI7, Lib.hid ?_⟩
    rw [HL7.out]
    exact link_zero t
  case round =>
    obtain ⟨i, RE, es, L, wb, EA, EC, rfl, rfl, hi, HBF, HEI, HLK⟩ := hrel
    have HINV := Lib.hid (bfs_inv HR.out i HBF.out)
    obtain ⟨S, hS⟩ : ∃ S, S = (bfs t i).1 := ⟨_, rfl⟩
    obtain ⟨Ed, hEd⟩ : ∃ E, E = (bfs t i).2 := ⟨_, rfl⟩
    rw [← hS, ← hEd] at HEI
    rw [← hS] at hi HLK
    rw [← hEd]
    have HSS := Lib.hid hS
    have HEE := Lib.hid hEd
    have HOKS := Lib.hid (show BOk t S from hS ▸ HINV.out.ok)
    have hS512 : S.length ≤ 512 := HOKS.out.len HR.out HS.out.many
    obtain ⟨wt, rfl⟩ : ∃ wt : World, wt = wr := ⟨_, rfl⟩
    have HLen := Lib.hid (fun W (k : Below wt.heap.size wt W) => rlen_any (HEI.out.up k).reg)
    have HW45 := Lib.hid (fun W (k : Below B w5 W) => (show Below w4.heap.size w4 W from HB45.out.trans (k.mono hB)))
    clear hS hEd
    go_wp2_with fail
    refine (HLen.out _ (by repeat (first | exact Below.refl _ _ | refine below_dN ?_ _ | refine Below.drew ?_ | refine Below.alloc ?_ (by first | omega | (simp; done) | (simp; omega)) _ | refine Below.setCell ?_ (by first | omega | (simp; done) | (simp; omega)) _ | refine below_step (by assumption) (by first | omega | (simp; done) | (simp; omega)) ?_))).mono ?_
    rintro e w8 ⟨rfl, hb8⟩
    have HB8 := Lib.hid (show Below wt.heap.size wt w8 from below_step hb8 (show wt.heap.size ≤ _ by simp) (show Below wt.heap.size wt _ by repeat (first | exact Below.refl _ _ | refine below_dN ?_ _ | refine Below.drew ?_ | refine Below.alloc ?_ (by first | omega | (simp; done) | (simp; omega)) _ | refine Below.setCell ?_ (by first | omega | (simp; done) | (simp; omega)) _ | refine below_step (by assumption) (by first | omega | (simp; done) | (simp; omega)) ?_)))
    have HE8 := Lib.hid (HEI.out.up HB8.out)
    have hz8 := HB8.out.size
    clear hb8
    by_cases hlt : i < S.length
    · have hd6 : decide ((i : Int) < (S.length : Int)) = true := decide_eq_true (by omega)
      obtain ⟨s, hs⟩ : ∃ s, s = stI S i := ⟨_, rfl⟩
      have hsB : stB t.vars s = true := by rw [hs]; exact HOKS.out.st _ (stI_mem hlt)
      have HSP := Lib.hid (stB_P hsB)
      have HSI := Lib.hid hs
      have HAT := Lib.hid (show i < (bfs t n).1.length ∧ stI (bfs t n).1 i = s from by
        rw [hs, HSS.out]
        exact bEnd_at HR.out HEND.out HBF.out (by rw [← HSS.out]; exact hlt))
      have hsl := Lib.hid (show s.length = t.vars.length from HSP.out.1)
      have hs64 : s.length ≤ 140737488355328 := by have := hsl.out; have := HR.out.nv; omega
      have HSO := Lib.hid (stOk_of HR.out HSP.out)
      have KST := rstate_any HE8.out.reg i hlt
      rw [pkF_len, ← hs] at KST
      have HKS := Lib.hid KST
      clear KST hs hsB
      go_wp2_with fail
      refine HKS.out.mono ?_
      rintro e w9 ⟨⟨g9, rfl, hg9, hx9⟩, hb9⟩
      have HE9 := Lib.hid (HE8.out.up hb9)
      have HXS9 := Lib.hid hx9
      have hz9 := hb9.size
      have KXS := xstate_any (HSP4.out.up (HW45.out _ HE9.out.low)) i HAT.out.1
      rw [HAT.out.2] at KXS
      have HKX := Lib.hid KXS
      clear hx9 hb9 KXS hd6 HKS
      go_wp2_with fail
      refine HKX.out.mono ?_
      rintro e w10 ⟨⟨g10, rfl, hg10, hx10⟩, hb10⟩
      have HE10 := Lib.hid (HE9.out.up hb10)
      have HXS10 := Lib.hid (HXS9.out.up hb10)
      have HXX10 := Lib.hid hx10
      have hz10 := hb10.size
      have KPA := pack_any (pkF t) (pkN t) P (fun b => b < w5.heap.size) s (some ⟨g9, 0, none⟩) t.vars.length w10 (HPK.out.move (Moves.of_kb HE10.out.kc (fun b _ h => h) (fun _ _ h => h))) HE10.out.reg.fok (ints_box HXS10.out hs64) HSO.out
      rw [hsl.out] at KPA
      have HKP := Lib.hid KPA
      clear hx10 hb10 KPA HKX
      go_wp2_with fail
      refine HKP.out.mono ?_
      rintro e w11 ⟨⟨g11, rfl, hg11, hx11⟩, hb11⟩
      have HE11 := Lib.hid (HE10.out.up hb11)
      have HXS11 := Lib.hid (HXS10.out.up hb11)
      have HXX11 := Lib.hid (HXX10.out.up hb11)
      have HXW11 := Lib.hid hx11
      have hz11 := hb11.size
      have KI := bints_any s s (some ⟨g9, 0, none⟩) (some ⟨g10, 0, none⟩) t.vars.length t.vars.length w11 (ints_box HXS11.out hs64) (ints_box HXX11.out hs64)
      rw [hsl.out, decide_eq_true rfl] at KI
      have HKI := Lib.hid KI
      clear hx11 hb11 KI HKP
      go_wp2_with fail
      refine HKI.out.mono ?_
      rintro e w12 ⟨rfl, hb12⟩
      have HE12 := Lib.hid (HE11.out.up hb12)
      have HXS12 := Lib.hid (HXS11.out.up hb12)
      have HXW12 := Lib.hid (HXW11.out.up hb12)
      have hz12 := hb12.size
      have KU := unpack_any (pkF t) (pkN t) P (fun b => b < w5.heap.size) s (some ⟨g11, 0, none⟩) (pkN t) w12 (HPK.out.move (Moves.of_kb HE12.out.kc (fun b _ h => h) (fun _ _ h => h))) HE12.out.reg.fok (rowx_box HXW12.out) HSO.out
      rw [pkF_len] at KU
      have HKU := Lib.hid KU
      clear hb12 KU HKI
      go_wp2_with fail
      refine HKU.out.mono ?_
      rintro e w13 ⟨⟨g13, rfl, hg13, hx13⟩, hb13⟩
      have HE13 := Lib.hid (HE12.out.up hb13)
      have HXS13 := Lib.hid (HXS12.out.up hb13)
      have HXB13 := Lib.hid hx13
      have hz13 := hb13.size
      have KI := bints_any s s (some ⟨g13, 0, none⟩) (some ⟨g9, 0, none⟩) t.vars.length t.vars.length w13 (ints_box HXB13.out hs64) (ints_box HXS13.out hs64)
      rw [hsl.out, decide_eq_true rfl] at KI
      have HKI := Lib.hid KI
      clear hx13 hb13 KI HKU
      go_wp2_with fail
      refine HKI.out.mono ?_
      rintro e w14 ⟨rfl, hb14⟩
      have HE14 := Lib.hid (HE13.out.up hb14)
      have HXS14 := Lib.hid (HXS13.out.up hb14)
      have hz14 := hb14.size
      have KS2 := gsucc_any t G s (some ⟨g9, 0, none⟩) t.vars.length w14 (HG4.out.up (HW45.out _ HE14.out.low)) HR.out (ints_box HXS14.out hs64) HSP.out
      rw [hsl.out] at KS2
      obtain ⟨m, hm⟩ : ∃ m, m = (ops1 t s).length := ⟨_, rfl⟩
      rw [← hm] at KS2
      have HM := Lib.hid hm
      have hm20 : m ≤ 20 := by rw [hm]; exact Nat.le_trans (ops1_len t s) HS.out.no
      have HKS2 := Lib.hid KS2
      clear hb14 KS2 hm HKI
      go_wp2_with fail
      refine HKS2.out.mono ?_
      rintro e w15 ⟨⟨SA, SC, rfl, hsuc⟩, hb15⟩
      have HSUC := Lib.hid hsuc
      have HE15 := Lib.hid (HE14.out.up hb15)
      have HXS15 := Lib.hid (HXS14.out.up hb15)
      have hz15 := hb15.size
      clear hsuc hb15 HKS2
      go_wp2_with fail
      go_loopw [14, 159] (fun v14 v159 wr => ∃ (j : Nat) (RE : Value) (es : Array MapEntry) (L : List (Int × Int × Int)) (wb : Nat → Nat) (EA : Option Addr) (EC : Nat), v14 = .slice EA (rnd t i s (S, Ed) j).2.length EC ∧ v159 = .int .i64 j ∧ j ≤ m ∧ Hid (StI wr w5 w6 w5.heap.size B R q mb t (rnd t i s (S, Ed) j).1 (rnd t i s (S, Ed) j).2 RE es L wb EA EC) ∧ Hid (LinkOk t (rnd t i s (S, Ed) j).1 L) ∧ Hid (Kb (fun b => b < w8.heap.size) w15 wr) ∧ Hid (∀ b, b < w15.heap.size → RegOwn R mb RE es b → b < w8.heap.size) ∧ Hid (∀ b, b < w15.heap.size → (Value.slice EA (rnd t i s (S, Ed) j).2.length EC).ownBlock = some b → b < w8.heap.size)) (fun _ v _ => m - (RowKit.intOf v).toNat)
      case atStart => exact ⟨0, RE, es, L, wb, EA, EC, rfl, rfl, Nat.zero_le _, HE15, HLK, Lib.hid (Kb.refl _ _), Lib.hid (fun b _ hr => (HE8.out.reg.types hr).2.1), Lib.hid (fun b _ hr => (HE8.out.ed.lt b hr).2)⟩
      case round =>
        obtain ⟨j, RE, es, L, wb, EA, EC, rfl, rfl, hj, HEJ, HLJ, HKJ, HRJ, HAJ⟩ := hrel
        by_cases hltj : j < m
        · obtain ⟨wt2, rfl⟩ : ∃ wt2 : World, wt2 = wr := ⟨_, rfl⟩
          have hjn : j < (ops1 t s).length := by rw [← HM.out]; exact hltj
          obtain ⟨sb, rfl, hsb, hsc⟩ := HSUC.out wt2 (HKJ.out.mono (fun b _ (h : b < w8.heap.size) => (show b < w14.heap.size by omega))) (by rw [← HM.out]; omega)
          obtain ⟨i0, sA', sC', i1, hIA⟩ := hsc j hjn
          obtain ⟨o, ho⟩ : ∃ o, o = opN (ops1 t s) j := ⟨_, rfl⟩
          rw [← ho] at i0 hIA
          have hol : o < t.ops.length := by rw [ho]; exact (opN_lt hjn).1
          have hop : hoB (opr t.ops o).pre s = true := by rw [ho]; exact (opN_lt hjn).2
          have HOO := Lib.hid ho
          obtain ⟨nx, hnx⟩ : ∃ x, x = nxt t s o := ⟨_, rfl⟩
          rw [← hnx] at hIA
          have hnxl : nx.length = s.length := by rw [hnx]; exact nxt_len _ _ _
          have hnxB : stB t.vars nx = true := by rw [hnx]; exact st_nxtW HR.out (stP_B HSP.out) hol
          have hrap := rap_yes HS.out.chk hol (stP_B HSP.out) hop
          rw [← hnx] at hrap
          have HNX := Lib.hid hnx
          have HRAP := Lib.hid hrap
          have HOP := Lib.hid hop
          have HINR := Lib.hid (rnd_inv (X := (S, Ed)) HR.out (by rw [show ((S, Ed) : BS) = bfs t i from Prod.ext HSS.out HEE.out]; exact HINV.out) hlt (stP_B HSP.out) j (by omega))
          have HSTP := Lib.hid (stB_P hnxB)
          obtain ⟨S', hS'⟩ : ∃ x, x = (rnd t i s (S, Ed) j).1 := ⟨_, rfl⟩
          obtain ⟨E', hE'⟩ : ∃ x, x = (rnd t i s (S, Ed) j).2 := ⟨_, rfl⟩
          have HOKJ := Lib.hid (show BOk t S' from hS' ▸ HINR.out.1.ok)
          have HIS' := Lib.hid (show i < S'.length ∧ stI S' i = s from by
            rw [hS']
            exact ⟨Nat.lt_of_lt_of_le hlt HINR.out.2.1, (HINR.out.2.2 i hlt).trans HSI.out.symm⟩)
          have hS'5 : S'.length ≤ 512 := HOKJ.out.len HR.out HS.out.many
          have HE'5 := Lib.hid (show E'.length ≤ 512 * 20 + 20 from by
            rw [hE', rnd_elen t i s (S, Ed) j (by omega)]
            have h1 := bfs_elen t i
            have h2 := HS.out.no
            have h3 : i * t.ops.length ≤ 512 * 20 := Nat.mul_le_mul (by omega) h2
            show Ed.length + j ≤ _
            rw [HEE.out]
            omega)
          rw [← hS', ← hE'] at HEJ
          rw [← hS'] at HLJ
          rw [← hE'] at HAJ
          rw [← hE']
          have HSJ := Lib.hid hS'
          have HEJ2 := Lib.hid hE'
          have HGS := Lib.hid (HXS15.out.kb HKJ.out (fun h => by have h : g9 < w8.heap.size := h; omega))
          clear hsc ho hnx hS' hE' hrap hop
          go_upto_region 27 with fail
          obtain ⟨wb1, hwb1⟩ : ∃ W, W = wt2.alloc (.cells #[.int .i64 o, .slice sA' s.length sC'] 57) := ⟨_, rfl⟩
          rw [← hwb1]
          have HXb := Lib.hid (show BxI wb1 wt2.heap.size 57 #[.int .i64 o, .slice sA' s.length sC'] by rw [hwb1]; exact BxI.new _ _ _)
          have HBb := Lib.hid (show Below wt2.heap.size wt2 wb1 by rw [hwb1]; exact (Below.refl _ _).alloc (Nat.le_refl _) _)
          have HEb := Lib.hid (HEJ.out.up HBb.out)
          have hzb := HBb.out.size
          have HXT := Lib.hid (HX5.out.low HEb.out.low (by omega))
          have HTb := Lib.hid (HT.out.up (HB5.out.trans (HEb.out.low.mono (by omega))))
          have hxbl := HXb.out.lt
          have hxtl := HXT.out.lt
          have z0 := HXb.out.cell 0 _ rfl
          have y0 := HXT.out.cell 0 _ rfl
          have y1 := HXT.out.cell 1 _ rfl
          have y2 := HXT.out.cell 2 _ rfl
          have y3 := HXT.out.cell 3 _ rfl
          have KT := tapply_any t ⟨pav, pai, pag, pao, pcv, pci, pcg, pco⟩ s (some ⟨g9, 0, none⟩) t.vars.length (o : Int) wb1 HTb.out ((ints_box HGS.out hs64).up HBb.out)
          unfold TapRet TaskV at KT
          dsimp only at KT
          rw [HRAP.out.1, HRAP.out.2, erV_0, hsl.out] at KT
          have HKT := Lib.hid KT
          have HIAb := Lib.hid (hIA.up HBb.out)
          clear hwb1 KT i0 i1 hIA
          go_wp2_with fail
          refine HKT.out.mono ?_
          rintro e w16 ⟨⟨v16, rfl, NA, NC, rfl, _, hna⟩, hb16⟩
          have HNA := Lib.hid hna
          have HE16 := Lib.hid (HEb.out.up hb16)
          have HXb16 := Lib.hid (HXb.out.up hb16)
          have HB16 := Lib.hid (HBb.out.trans (hb16.mono hzb))
          have hz16 := hb16.size
          have z1 := HXb16.out.cell 1 _ rfl
          have hxb16 := HXb16.out.lt
          have KI := bints_any nx nx NA sA' NC sC' w16 hna (HIAb.out.up hb16)
          rw [decide_eq_true rfl] at KI
          have KI2 := KI
          rw [hnxl] at KI2 ⊢
          have HKI := Lib.hid KI2
          clear hna hb16 KI KI2 y0 y1 y2 y3 z0 HKT
          go_wp2_with fail
          refine HKI.out.mono ?_
          rintro e w17 ⟨rfl, hb17⟩
          have HE17 := Lib.hid (HE16.out.up hb17)
          have HXb17 := Lib.hid (HXb16.out.up hb17)
          have HB17 := Lib.hid (HB16.out.trans (hb17.mono (by omega)))
          have hz17 := hb17.size
          have KA := radd2_any HR.out HE17.out.reg HOKJ.out nx NA NC (HNA.out.up hb17) HSTP.out (by omega)
          rw [hnxl] at KA
          have HKA := Lib.hid KA
          clear hb17 KA z1 HKI
          go_wp2_with fail
          refine HKA.out.mono ?_
          rintro e w18 ⟨fr, RE', es', L', wb', rfl, hk18, hreg18, hrow18, hf1, hf2⟩
          have HE18 := Lib.hid (HE17.out.add hk18 hreg18 hrow18)
          have HXb18 := Lib.hid (HXb17.out.kb hk18 (HE17.out.reg.ne_box HXb17.out (by decide) (by decide) (by decide)))
          have HK18 := Lib.hid (show Kb (fun b => b < w8.heap.size) w15 w18 from (HKJ.out.up HB17.out).then_ hk18 (fun b hb hr => HRJ.out b hb hr))
          have hz18 := hk18.size
          have hzSb := HKJ.out.size
          have HR18 := Lib.hid (show ∀ b, b < w15.heap.size → RegOwn R mb RE' es' b → b < w8.heap.size from fun b hb hr => HRJ.out b hb (hrow18 b (by omega) hr))
          have HF1 := Lib.hid hf1
          have HF2 := Lib.hid hf2
          clear hk18 hreg18 hrow18 hf1 hf2 HKA
          obtain ⟨idn, hidn⟩ : ∃ x, x = idS S' nx := ⟨_, rfl⟩
          rw [← hidn] at HF1
          rw [← hidn]
          have HIDN := Lib.hid hidn
          clear hidn
          have hxb18 := HXb18.out.lt
          have z0 := HXb18.out.cell 0 _ rfl
          obtain ⟨ob, oo, d1, d2, d3, d4, ea, hob, _, _, d6, _, _, _, _⟩ := HT.out.ops.at2 (show Below w.heap.size w w18 from HB5.out.trans (HE18.out.low.mono (by omega))) hol
          have HXT18 := Lib.hid (HX5.out.low HE18.out.low (by omega))
          obtain ⟨cst, hcst⟩ : ∃ x, x = (opr t.ops o).cost := ⟨_, rfl⟩
          rw [← hcst] at d6
          have hobz : ob < w18.heap.size := by have := (HB5.out.trans (HE18.out.low.mono (show w.heap.size ≤ B by omega))).size; omega
          have HS31 := Lib.hid (show ∀ w' : World, Below w18.heap.size w18 w' → w'.cell? ⟨wt2.heap.size, 0, none⟩ = some (.int .i64 o) ∧ w'.cell? ⟨w.heap.size, 3, none⟩ = some (.slice (some ⟨ob, oo, none⟩) t.ops.length pco) ∧ w'.cell? ⟨ob, oo + o * 4 + 1, none⟩ = some (.int .i64 cst) from fun w' kb => ⟨(HXb18.out.up kb).cell 0 _ rfl, by rw [← ea]; exact (HXT18.out.up kb).cell 3 _ rfl, (kb.cell (p := ⟨ob, oo + o * 4 + 1, none⟩) hobz).trans d6⟩)
          have hiN : i < (adS S' nx).length ∧ idn < (adS S' nx).length := ⟨Nat.lt_of_lt_of_le HIS'.out.1 (by unfold adS; split; exact Nat.le_refl _; rw [List.length_append]; omega), by rw [HIDN.out]; exact idS_lt _ _⟩
          have HKSL := Lib.hid (show ∀ W, Below w18.heap.size w18 W → Calls Tryz.prog 19 #[.pointer (some ⟨R, 0, none⟩), .int .i64 idn, .int .i64 i, .int .i64 o, .int .i64 cst] W fun e w' => e = .returned .nilIface ∧ StI w' w5 w6 w5.heap.size B R q mb t (adS S' nx) E' RE' es' (L'.set idn ((i : Int), (o : Int), cst)) wb' EA EC ∧ BxI w' wt2.heap.size 57 #[.int .i64 o, .slice sA' s.length sC'] ∧ Kb (fun b => b < w8.heap.size) w15 w' from fun W k => by
            refine (setlink_any (HE18.out.up k).reg idn i o cst hiN.2 hiN.1).mono ?_
            rintro e w' ⟨he, hk, hr⟩
            exact ⟨he, (HE18.out.up k).add hk hr (fun b _ h => h), (HXb18.out.up k).kb hk ((HE18.out.up k).reg.ne_box (HXb18.out.up k) (by decide) (by decide) (by decide)), (HK18.out.up k).then_ hk (fun b hb hr => HR18.out b hb hr)⟩)
          have HLN := Lib.hid (show fr = true → LinkOk t (adS S' nx) (L'.set idn ((i : Int), (o : Int), cst)) from fun h => by
            obtain ⟨g1, g2, g3⟩ := HF1.out h
            rw [g1, g2, g3]
            exact link_new HEJ.out.reg.len HLJ.out HIS'.out.1 (by rw [HIS'.out.2]; exact ap_yes hol (stP_B HSP.out) HOP.out) (by rw [HIS'.out.2]; exact HNX.out.symm))
          have HLO := Lib.hid (show fr = false → LinkOk t (adS S' nx) L' from fun h => by
            obtain ⟨g1, g2⟩ := HF2.out h
            rw [g1, g2]
            exact HLJ.out)
          have hxt18 := HXT18.out.lt
          clear ea d6 hcst hiN z0
          have hE5 : E'.length ≤ 20000 := by have := HE'5.out; omega
          go_upto_region 31 with fail
          cases fr
          · skip
            refine wp_region_G 20 (fun w' => w'.cell? ⟨wt2.heap.size, 0, none⟩ = some (.int .i64 o) ∧ w'.cell? ⟨w.heap.size, 3, none⟩ = some (.slice (some ⟨ob, oo, none⟩) t.ops.length pco) ∧ w'.cell? ⟨ob, oo + o * 4 + 1, none⟩ = some (.int .i64 cst)) (by kernel_rfl) (HS31.out _ (by repeat (first | exact Below.refl _ _ | refine below_dN ?_ _ | refine Below.drew ?_ | refine Below.alloc ?_ (by first | omega | (simp; done) | (simp; omega)) _ | refine Below.setCell ?_ (by first | omega | (simp; done) | (simp; omega)) _ | refine below_step (by assumption) (by first | omega | (simp; done) | (simp; omega)) ?_))) ?_
            intro hG0
            refine wpS1 0 hG0 ?_; intro hG1; clear hG0
            refine wpS1 1 hG1 ?_; intro hG2; clear hG1
            refine wpS3 2 (.bool false) hG2 ?_; intro hG3; clear hG2
            refine wpS1 3 hG3 ?_; intro hG4; clear hG3
            refine wpS3 4 (.bool false) hG4 ?_; intro hG5; clear hG4
            refine wpS0 5 hG5 ?_; intro hG6; clear hG5
            refine wpS0 6 hG6 ?_; intro hG7; clear hG6
            refine wpS0 7 hG7 ?_; intro hG8; clear hG7
            refine wpS0 8 hG8 ?_; intro hG9; clear hG8
            refine wpS0 9 hG9 ?_; intro hG10; clear hG9
            refine wpS0 10 hG10 ?_; intro hG11; clear hG10
            refine wpS0 11 hG11 ?_; intro hG12; clear hG11
            refine wpS0 12 hG12 ?_; intro hG13; clear hG12
            refine wpS0 13 hG13 ?_; intro hG14; clear hG13
            refine wpS0 14 hG14 ?_; intro hG15; clear hG14
            refine wpS0 15 hG15 ?_; intro hG16; clear hG15
            refine wpS0 16 hG16 ?_; intro hG17; clear hG16
            refine wpS0 17 hG17 ?_; intro hG18; clear hG17
            refine wpS0 18 hG18 ?_; intro hG19; clear hG18
            refine wpS1 19 hG19 ?_; intro hG20; clear hG19
            refine wpAnyG_ready (rs := [20]) (by kernel_rfl) (by simp) (AllG.cons rfl hG20 (fun K hK => ?_) AllG.nil)
            (go_simp)
            refine hK.out _ _ (Or.inl rfl) (fun hG21 => wpN ?_); clear hK hG20
            refine wpAnyG_done (by kernel_rfl) ?_ _; clear hG21
            obtain ⟨w19, hw19⟩ : ∃ W, W = w18.drew := ⟨_, rfl⟩
            have HB19 := Lib.hid (show Below w18.heap.size w18 w19 by rw [hw19]; repeat (first | exact Below.refl _ _ | refine below_dN ?_ _ | refine Below.drew ?_ | refine Below.alloc ?_ (by first | omega | (simp; done) | (simp; omega)) _ | refine Below.setCell ?_ (by first | omega | (simp; done) | (simp; omega)) _ | refine below_step (by assumption) (by first | omega | (simp; done) | (simp; omega)) ?_))
            rw [← hw19]
            have HE19 := Lib.hid (HE18.out.up HB19.out)
            have HXb19 := Lib.hid (HXb18.out.up HB19.out)
            have HK19 := Lib.hid (HK18.out.up HB19.out)
            clear hw19
            have hxb19 := HXb19.out.lt
            have hz619 : w6.heap.size ≤ w19.heap.size := HE19.out.kc.size
            have z0 := HXb19.out.cell 0 _ rfl
            go_wp2_with (at_builtin; refine wpList_append_src (by rfl) _ _ 45 (by rfl) w6.heap.size 64 ied (.agg #[.int .i64 0, .int .i64 0, .int .i64 0]) 3 24 qundEd ed1 ed2 ed3 ed4 rfl (by decide) (.slice EA E'.length EC) E'.length (edC E') (by rfl) (by exact HE19.out.ed.alloc _) (some ⟨w19.heap.size, 0, none⟩) 1 1 [.int .i64 i, .int .i64 o, .int .i64 idn] (by rfl) (src_of (heap_alloc_new w19 _) rfl (by intro u hu; simp at hu; rcases hu with rfl | rfl | rfl <;> rfl)) (by unfold maxLen; omega) (by omega) (by first | omega | (simp; done) | (simp; omega)) ?_; intro v20 w20 hown20 hgrow20 hat20; obtain ⟨A20, c20, rfl⟩ := own_shape hown20; have HO20 := Lib.hid hown20; have HG20 := Lib.hid hgrow20; have HA20 := Lib.hid hat20; clear hown20 hgrow20 hat20)
            go_roundw
            case rel =>
              have hrs : rnd t i s (S, Ed) (j + 1) = (adS S' nx, E' ++ [(i, o, idn)]) := by
                rw [rnd_succ t i s (S, Ed) hjn, ← HOO.out]
                unfold stO
                rw [← HSJ.out, ← HEJ2.out, ← HNX.out, ← HIDN.out]
              have KZ : Kb (fun b => (Value.slice EA E'.length EC).ownBlock = some b) w19 w20 := (kb_alloc w19 _ _).trans (kb_grown HG20.out)
              have hs19 : w15.heap.size ≤ w19.heap.size := HK19.out.size
              have hl2 : (E' ++ [(i, o, idn)]).length = E'.length + 1 := by simp
              refine ⟨j + 1, RE', es', L', wb', A20, c20, by rw [hrs]; dsimp only; rw [hl2], rfl, by omega, by rw [hrs]; exact Lib.hid (HE19.out.edge (a := i) (l := o) (b := idn) HG20.out HO20.out), by rw [hrs]; exact Lib.hid (HLO.out rfl), Lib.hid (HK19.out.then_ KZ (fun b hb h => HAJ.out b hb h)), HR18, Lib.hid (fun b hb h => ?_)⟩
              rw [hrs] at h
              dsimp only at h
              rw [hl2] at h
              rcases HA20.out with h1 | h1
              · exact HAJ.out b hb (h1 ▸ h)
              · rw [h1] at h
                injection h with h
                have : (w19.alloc (.cells #[.int .i64 i, .int .i64 o, .int .i64 idn] 64)).heap.size = w19.heap.size + 1 := by simp
                first | omega | (simp at h; omega)
            case measure => simp [RowKit.intOf]; omega
          · skip
            refine wp_region_G 17 (fun w' => w'.cell? ⟨wt2.heap.size, 0, none⟩ = some (.int .i64 o) ∧ w'.cell? ⟨w.heap.size, 3, none⟩ = some (.slice (some ⟨ob, oo, none⟩) t.ops.length pco) ∧ w'.cell? ⟨ob, oo + o * 4 + 1, none⟩ = some (.int .i64 cst)) (by kernel_rfl) (HS31.out _ (by repeat (first | exact Below.refl _ _ | refine below_dN ?_ _ | refine Below.drew ?_ | refine Below.alloc ?_ (by first | omega | (simp; done) | (simp; omega)) _ | refine Below.setCell ?_ (by first | omega | (simp; done) | (simp; omega)) _ | refine below_step (by assumption) (by first | omega | (simp; done) | (simp; omega)) ?_))) ?_
            intro hG0
            refine wpS1 0 hG0 ?_; intro hG1; clear hG0
            refine wpS1 1 hG1 ?_; intro hG2; clear hG1
            refine wpS3 2 (.bool false) hG2 ?_; intro hG3; clear hG2
            refine wpS1 3 hG3 ?_; intro hG4; clear hG3
            refine wpS3 4 (.bool true) hG4 ?_; intro hG5; clear hG4
            refine wpS1 5 hG5 ?_; intro hG6; clear hG5
            refine wpS1 6 hG6 ?_; intro hG7; clear hG6
            refine wpS1 7 hG7 ?_; intro hG8; clear hG7
            refine wpS1 8 hG8 ?_; intro hG9; clear hG8
            refine wpS2 9 hG9 ?_; intro hG10; clear hG9
            refine wpS1 10 hG10 ?_; intro hG11; clear hG10
            refine wpS2 11 hG11 ?_; intro hG12; clear hG11
            refine wpS1 12 hG12 ?_; intro hG13; clear hG12
            refine wpS2 13 hG13 ?_; intro hG14; clear hG13
            refine wpS1 14 hG14 ?_; intro hG15; clear hG14
            refine wpS1 15 hG15 ?_; intro hG16; clear hG15
            refine wpS2 16 hG16 ?_; intro hG17; clear hG16
            refine wpAnyG_ready (rs := [17]) (by kernel_rfl) (by simp) (AllG.cons rfl hG17 (fun K hK => ?_) AllG.nil)
            refine (if_pos (by rfl)).mpr ?_
            (go_simp; go_at_call 19; refine (HKSL.out _ (by repeat (first | exact Below.refl _ _ | refine below_dN ?_ _ | refine Below.drew ?_ | refine Below.alloc ?_ (by first | omega | (simp; done) | (simp; omega)) _ | refine Below.setCell ?_ (by first | omega | (simp; done) | (simp; omega)) _ | refine below_step (by assumption) (by first | omega | (simp; done) | (simp; omega)) ?_))).mono ?_; rintro e w19 ⟨rfl, he19, hx19, hk19⟩; have HE19 := Lib.hid he19; have HXb19 := Lib.hid hx19; have HK19 := Lib.hid hk19; clear he19 hx19 hk19)
            refine hK.out _ _ (Or.inl rfl) (fun hG18 => wpN ?_); clear hK hG17
            refine wpS1 18 hG18 ?_; intro hG19; clear hG18
            refine wpS1 19 hG19 ?_; intro hG20; clear hG19
            refine wpS1 20 hG20 ?_; intro hG21; clear hG20
            refine wpAnyG_done (by kernel_rfl) ?_ _; clear hG21
            have hxb19 := HXb19.out.lt
            have hz619 : w6.heap.size ≤ w19.heap.size := HE19.out.kc.size
            have z0 := HXb19.out.cell 0 _ rfl
            go_wp2_with (at_builtin; refine wpList_append_src (by rfl) _ _ 45 (by rfl) w6.heap.size 64 ied (.agg #[.int .i64 0, .int .i64 0, .int .i64 0]) 3 24 qundEd ed1 ed2 ed3 ed4 rfl (by decide) (.slice EA E'.length EC) E'.length (edC E') (by rfl) (by exact HE19.out.ed.alloc _) (some ⟨w19.heap.size, 0, none⟩) 1 1 [.int .i64 i, .int .i64 o, .int .i64 idn] (by rfl) (src_of (heap_alloc_new w19 _) rfl (by intro u hu; simp at hu; rcases hu with rfl | rfl | rfl <;> rfl)) (by unfold maxLen; omega) (by omega) (by first | omega | (simp; done) | (simp; omega)) ?_; intro v20 w20 hown20 hgrow20 hat20; obtain ⟨A20, c20, rfl⟩ := own_shape hown20; have HO20 := Lib.hid hown20; have HG20 := Lib.hid hgrow20; have HA20 := Lib.hid hat20; clear hown20 hgrow20 hat20)
            go_roundw
            case rel =>
              have hrs : rnd t i s (S, Ed) (j + 1) = (adS S' nx, E' ++ [(i, o, idn)]) := by
                rw [rnd_succ t i s (S, Ed) hjn, ← HOO.out]
                unfold stO
                rw [← HSJ.out, ← HEJ2.out, ← HNX.out, ← HIDN.out]
              have KZ : Kb (fun b => (Value.slice EA E'.length EC).ownBlock = some b) w19 w20 := (kb_alloc w19 _ _).trans (kb_grown HG20.out)
              have hs19 : w15.heap.size ≤ w19.heap.size := HK19.out.size
              have hl2 : (E' ++ [(i, o, idn)]).length = E'.length + 1 := by simp
              refine ⟨j + 1, RE', es', (L'.set idn ((i : Int), (o : Int), cst)), wb', A20, c20, by rw [hrs]; dsimp only; rw [hl2], rfl, by omega, by rw [hrs]; exact Lib.hid (HE19.out.edge (a := i) (l := o) (b := idn) HG20.out HO20.out), by rw [hrs]; exact Lib.hid (HLN.out rfl), Lib.hid (HK19.out.then_ KZ (fun b hb h => HAJ.out b hb h)), HR18, Lib.hid (fun b hb h => ?_)⟩
              rw [hrs] at h
              dsimp only at h
              rw [hl2] at h
              rcases HA20.out with h1 | h1
              · exact HAJ.out b hb (h1 ▸ h)
              · rw [h1] at h
                injection h with h
                have : (w19.alloc (.cells #[.int .i64 i, .int .i64 o, .int .i64 idn] 64)).heap.size = w19.heap.size + 1 := by simp
                first | omega | (simp at h; omega)
            case measure => simp [RowKit.intOf]; omega
        · obtain rfl : j = m := by omega
          go_wp2_with fail
          go_roundw
          case rel =>
            have hb1 : rnd t i s (S, Ed) j = bfs t (i + 1) := by
              rw [HM.out]
              show _ = rnd t i (stI (bfs t i).1 i) (bfs t i) (ops1 t (stI (bfs t i).1 i)).length
              rw [← HSS.out, ← HSI.out]
              congr 1
              rw [HSS.out, HEE.out]
            have hlen := (rnd_inv (X := (S, Ed)) HR.out (by rw [show ((S, Ed) : BS) = bfs t i from Prod.ext HSS.out HEE.out]; exact HINV.out) hlt (stP_B HSP.out) j (by rw [HM.out]; exact Nat.le_refl _)).2.1
            rw [hb1] at hlen HEJ HLJ ⊢
            refine ⟨i + 1, RE, es, L, wb, EA, EC, rfl, rfl, by have : S.length ≤ _ := hlen; omega, Lib.hid (fun k hk => ?_), HEJ, HLJ⟩
            by_cases e : k = i
            · subst e; rw [← HSS.out]; exact hlt
            · exact HBF.out k (by omega)
          case measure => simp [RowKit.intOf]; omega
    · obtain rfl : i = S.length := by omega
      have hd6 : decide ((S.length : Int) < (S.length : Int)) = false := decide_eq_false (by omega)
      have hni : n = S.length := bEnd_uni HEND.out (show BEnd t S.length from ⟨by rw [← HSS.out], HBF.out⟩)
      have HY := Lib.hid (show bfs t n = (S, Ed) from by rw [hni]; exact (Prod.ext HSS.out HEE.out).symm)
      have HE1 := Lib.hid (show Ed.length ≤ 20000 from by
        have h1 := bfs_elen t S.length
        rw [← HEE.out] at h1
        have h3 : S.length * t.ops.length ≤ 512 * 20 := Nat.mul_le_mul hS512 HS.out.no
        omega)
      have KE := xedges_any (HSP4.out.up (HW45.out _ HE8.out.low)) (by rw [HY.out]; have := HE1.out; show Ed.length ≤ _; omega)
      rw [HY.out] at KE
      have HKE := Lib.hid KE
      clear KE hni
      go_wp2_with fail
      refine HKE.out.mono ?_
      rintro e w20 ⟨⟨WA, WC, rfl, hwo⟩, hb20⟩
      try dsimp only at hwo
      try dsimp only
      have HE20 := Lib.hid (HE8.out.up hb20)
      have HWO := Lib.hid hwo
      have hz20 := hb20.size
      have KL := Lib.hid (fun W (k : Below w20.heap.size w20 W) => rlen_any (HE20.out.up k).reg)
      have KL2 := fun W (k : Below w20.heap.size w20 W) => xlen_any (HSP4.out.up (HW45.out _ (HE20.out.up k).low))
      rw [HY.out] at KL2
      try dsimp only at KL2
      have HKL2 := Lib.hid KL2
      clear hb20 KL2 HKE hwo
      go_wp2_with fail
      refine (KL.out _ (by repeat (first | exact Below.refl _ _ | refine below_dN ?_ _ | refine Below.drew ?_ | refine Below.alloc ?_ (by first | omega | (simp; done) | (simp; omega)) _ | refine Below.setCell ?_ (by first | omega | (simp; done) | (simp; omega)) _ | refine below_step (by assumption) (by first | omega | (simp; done) | (simp; omega)) ?_))).mono ?_
      rintro e w21 ⟨rfl, hb21⟩
      have HB21 := Lib.hid (show Below w20.heap.size w20 w21 from below_step hb21 (show w20.heap.size ≤ _ by simp) (show Below w20.heap.size w20 _ by repeat (first | exact Below.refl _ _ | refine below_dN ?_ _ | refine Below.drew ?_ | refine Below.alloc ?_ (by first | omega | (simp; done) | (simp; omega)) _ | refine Below.setCell ?_ (by first | omega | (simp; done) | (simp; omega)) _ | refine below_step (by assumption) (by first | omega | (simp; done) | (simp; omega)) ?_)))
      clear hb21
      go_wp2_with fail
      refine (HKL2.out _ HB21.out).mono ?_
      rintro e w22 ⟨rfl, hb22⟩
      have HB22 := Lib.hid (HB21.out.trans (hb22.mono HB21.out.size))
      have HE22 := Lib.hid (HE20.out.up HB22.out)
      have HWO22 := Lib.hid (own_kb1 HWO.out (Kb.of_below (bad := fun _ => False) HB22.out) (fun _ _ h => h))
      have hdn : ((S.length : Int) != (S.length : Int)) = false := by simp
      have hde : ((Ed.length : Int) != (Ed.length : Int)) = false := by simp
      have hS4 : S.length ≤ 4096 := by omega
      have hE4 : Ed.length ≤ 20000 := HE1.out
      clear hb22
      go_wp2_with fail
      go_loopw [233] (fun v233 wr => ∃ k : Nat, v233 = .int .i64 k ∧ k ≤ Ed.length ∧ Hid (Below w22.heap.size w22 wr)) (fun v _ => Ed.length - (RowKit.intOf v).toNat)
      case atStart => exact ⟨0, rfl, Nat.zero_le _, Lib.hid (Below.refl _ _)⟩
      case round =>
        obtain ⟨k, rfl, hk, HBK⟩ := hrel
        by_cases hltk : k < Ed.length
        · have he1 := own_kb1 HE22.out.ed (Kb.of_below (bad := fun _ => False) HBK.out) (fun _ _ h => h)
          have he2 := own_kb1 HWO22.out (Kb.of_below (bad := fun _ => False) HBK.out) (fun _ _ h => h)
          obtain ⟨e1, rfl, hl1, hl2, _⟩ := own_frozen' he1 (by omega)
          obtain ⟨e2, rfl, hl3, hl4, _⟩ := own_frozen' he2 (by omega)
          obtain ⟨a0, a1, a2⟩ := edC_get Ed k hltk
          have c0 := own_cell he1 a0
          have c1 := own_cell he1 a1
          have c2 := own_cell he1 a2
          have d0 := own_cell he2 a0
          have d1 := own_cell he2 a1
          have d2 := own_cell he2 a2
          obtain ⟨x0, hx0⟩ : ∃ x, x = (edN Ed k).1 := ⟨_, rfl⟩
          obtain ⟨x1, hx1⟩ : ∃ x, x = (edN Ed k).2.1 := ⟨_, rfl⟩
          obtain ⟨x2, hx2⟩ : ∃ x, x = (edN Ed k).2.2 := ⟨_, rfl⟩
          rw [← hx0] at c0 d0
          rw [← hx1] at c1 d1
          rw [← hx2] at c2 d2
          obtain ⟨w30, rfl⟩ : ∃ W : World, W = wr := ⟨_, rfl⟩
          have HS41 := Lib.hid (show ∀ w' : World, Below w30.heap.size w30 w' → w'.cell? ⟨e1, k * 3, none⟩ = some (.int .i64 x0) ∧ w'.cell? ⟨e1, k * 3 + 1, none⟩ = some (.int .i64 x1) ∧ w'.cell? ⟨e1, k * 3 + 2, none⟩ = some (.int .i64 x2) ∧ w'.cell? ⟨e2, k * 3, none⟩ = some (.int .i64 x0) ∧ w'.cell? ⟨e2, k * 3 + 1, none⟩ = some (.int .i64 x1) ∧ w'.cell? ⟨e2, k * 3 + 2, none⟩ = some (.int .i64 x2) from fun w' kb => ⟨(kb.cell (p := ⟨e1, k * 3, none⟩) hl2).trans c0, (kb.cell (p := ⟨e1, k * 3 + 1, none⟩) hl2).trans c1, (kb.cell (p := ⟨e1, k * 3 + 2, none⟩) hl2).trans c2, (kb.cell (p := ⟨e2, k * 3, none⟩) hl4).trans d0, (kb.cell (p := ⟨e2, k * 3 + 1, none⟩) hl4).trans d1, (kb.cell (p := ⟨e2, k * 3 + 2, none⟩) hl4).trans d2⟩)
          clear he1 he2 a0 a1 a2 hx0 hx1 hx2 c0 c1 c2 d0 d1 d2
          go_wp2_with fail
          refine wp_region_G 8 (fun w' => w'.cell? ⟨e1, k * 3, none⟩ = some (.int .i64 x0) ∧ w'.cell? ⟨e1, k * 3 + 1, none⟩ = some (.int .i64 x1) ∧ w'.cell? ⟨e1, k * 3 + 2, none⟩ = some (.int .i64 x2) ∧ w'.cell? ⟨e2, k * 3, none⟩ = some (.int .i64 x0) ∧ w'.cell? ⟨e2, k * 3 + 1, none⟩ = some (.int .i64 x1) ∧ w'.cell? ⟨e2, k * 3 + 2, none⟩ = some (.int .i64 x2)) (by kernel_rfl) (HS41.out _ (by repeat (first | exact Below.refl _ _ | refine below_dN ?_ _ | refine Below.drew ?_ | refine Below.alloc ?_ (by first | omega | (simp; done) | (simp; omega)) _ | refine Below.setCell ?_ (by first | omega | (simp; done) | (simp; omega)) _ | refine below_step (by assumption) (by first | omega | (simp; done) | (simp; omega)) ?_))) ?_
          intro hG0
          refine wpS1 0 hG0 ?_; intro hG1; clear hG0
          refine wpS1 1 hG1 ?_; intro hG2; clear hG1
          refine wpS1 2 hG2 ?_; intro hG3; clear hG2
          refine wpS2 3 hG3 ?_; intro hG4; clear hG3
          refine wpS1 4 hG4 ?_; intro hG5; clear hG4
          refine wpS1 5 hG5 ?_; intro hG6; clear hG5
          refine wpS1 6 hG6 ?_; intro hG7; clear hG6
          refine wpS2 7 hG7 ?_; intro hG8; clear hG7
          refine wpAnyG_ready (rs := [8]) (by kernel_rfl) (by simp) (AllG.cons rfl hG8 (fun K hK => ?_) AllG.nil)
          (go_simp)
          refine hK.out _ _ (Or.inl rfl) (fun hG9 => wpN ?_); clear hK hG8
          refine wpAnyG_done (by kernel_rfl) ?_ _; clear hG9
          go_wp2_with fail
          go_roundw
          case rel => exact ⟨k + 1, rfl, by omega, Lib.hid (HBK.out.trans (Below.mono (by repeat (first | exact Below.refl _ _ | refine below_dN ?_ _ | refine Below.drew ?_ | refine Below.alloc ?_ (by first | omega | (simp; done) | (simp; omega)) _ | refine Below.setCell ?_ (by first | omega | (simp; done) | (simp; omega)) _ | refine below_step (by assumption) (by first | omega | (simp; done) | (simp; omega)) ?_)) HBK.out.size))⟩
          case measure => simp [RowKit.intOf]; omega
        · obtain rfl : k = Ed.length := by omega
          obtain ⟨w30, rfl⟩ : ∃ W : World, W = wr := ⟨_, rfl⟩
          have HE30 := Lib.hid (HE22.out.up HBK.out)
          have KLw := Lib.hid (fun W (k : Below w30.heap.size w30 W) => rlen_any (HE30.out.up k).reg)
          go_wp2_with fail
          refine (KLw.out _ (by repeat (first | exact Below.refl _ _ | refine below_dN ?_ _ | refine Below.drew ?_ | refine Below.alloc ?_ (by first | omega | (simp; done) | (simp; omega)) _ | refine Below.setCell ?_ (by first | omega | (simp; done) | (simp; omega)) _ | refine below_step (by assumption) (by first | omega | (simp; done) | (simp; omega)) ?_))).mono ?_
          rintro e w31 ⟨rfl, hb31⟩
          have HB31 := Lib.hid (show Below w30.heap.size w30 w31 from below_step hb31 (show w30.heap.size ≤ _ by simp) (show Below w30.heap.size w30 _ by repeat (first | exact Below.refl _ _ | refine below_dN ?_ _ | refine Below.drew ?_ | refine Below.alloc ?_ (by first | omega | (simp; done) | (simp; omega)) _ | refine Below.setCell ?_ (by first | omega | (simp; done) | (simp; omega)) _ | refine below_step (by assumption) (by first | omega | (simp; done) | (simp; omega)) ?_)))
          have HE31 := Lib.hid (HE30.out.up HB31.out)
          clear hb31
          go_wp2_with fail
          go_loopw [248] (fun v248 wr => ∃ k : Nat, v248 = .int .i64 k ∧ k ≤ S.length ∧ Hid (Below w31.heap.size w31 wr)) (fun v _ => S.length - (RowKit.intOf v).toNat)
          case atStart => exact ⟨0, rfl, Nat.zero_le _, Lib.hid (Below.refl _ _)⟩
          case round =>
            obtain ⟨k, rfl, hk2, HBQ⟩ := hrel
            obtain ⟨w32, rfl⟩ : ∃ W : World, W = wr := ⟨_, rfl⟩
            have HE32 := Lib.hid (HE31.out.up HBQ.out)
            by_cases hltk : k < S.length
            · have KPT := Lib.hid (rpath_any HE32.out.reg HLK.out k hltk)
              go_wp2_with fail
              refine KPT.out.mono ?_
              rintro e w33 ⟨⟨PA, PC, pl, cost, rfl, hpl, hpll, hrun⟩, hb33⟩
              have HB33 := Lib.hid (HBQ.out.trans (hb33.mono HBQ.out.size))
              have HE33 := Lib.hid (HE32.out.up hb33)
              have HXT := Lib.hid (HX5.out.low HE33.out.low (by omega))
              have HW33 := Lib.hid (HB5.out.trans (HE33.out.low.mono (show w.heap.size ≤ B by omega)))
              have hxt := HXT.out.lt
              have y0 := HXT.out.cell 0 _ rfl
              have y1 := HXT.out.cell 1 _ rfl
              have y2 := HXT.out.cell 2 _ rfl
              have y3 := HXT.out.cell 3 _ rfl
              obtain ⟨s, hs⟩ : ∃ s, s = stI S k := ⟨_, rfl⟩
              have hsB : stB t.vars s = true := by rw [hs]; exact HOKS.out.st _ (stI_mem hltk)
              have hsl := Lib.hid (show s.length = t.vars.length from (stB_P hsB).1)
              have hs64 : s.length ≤ 140737488355328 := by have := hsl.out; have := HR.out.nv; omega
              have hS0 : stI S 0 = t.init := by have := bEnd_init HR.out HEND.out; rw [HY.out] at this; exact this
              rw [hS0, ← hs] at hrun
              have hrr := run_yes HS.out.chk (stP_B HST0.out) hpll hrun
              have KT := trun_any t ⟨pav, pai, pag, pao, pcv, pci, pcg, pco⟩ t.init pl pai PA pci PC w33 (HT.out.up HW33.out) (HT.out.init.up HW33.out) hpl
              unfold TrunRet TaskV at KT
              rw [hrr] at KT
              dsimp only at KT
              rw [erV_0] at KT
              have HKT := Lib.hid KT
              have HSK := Lib.hid hs
              clear KT hrr hrun hpl hb33 hS0 hs KPT
              go_wp2_with fail
              refine HKT.out.mono ?_
              rintro e w34 ⟨⟨v34, rfl, RA, RC, rfl, _, hra⟩, hb34⟩
              have HRA := Lib.hid hra
              have HB34 := Lib.hid (HB33.out.trans (hb34.mono HB33.out.size))
              have HE34 := Lib.hid (HE33.out.up hb34)
              have KST := rstate_any HE34.out.reg k hltk
              rw [pkF_len, ← HSK.out] at KST
              have HKS := Lib.hid KST
              rw [hsl.out]
              clear hra hb34 KST HKT y0 y1 y2 y3
              go_wp2_with fail
              refine HKS.out.mono ?_
              rintro e w35 ⟨⟨g35, rfl, hg35, hx35⟩, hb35⟩
              have HB35 := Lib.hid (HB34.out.trans (hb35.mono HB34.out.size))
              have KI := bints_any s s RA (some ⟨g35, 0, none⟩) RC t.vars.length w35 (HRA.out.up hb35) (ints_box hx35 hs64)
              rw [hsl.out, decide_eq_true rfl] at KI
              have HKI := Lib.hid KI
              clear hx35 hb35 KI HKS
              go_wp2_with fail
              refine HKI.out.mono ?_
              rintro e w36 ⟨rfl, hb36⟩
              have HB36 := Lib.hid (HB35.out.trans (hb36.mono HB35.out.size))
              clear hb36
              go_wp2_with fail
              go_roundw
              case rel => exact ⟨k + 1, rfl, by omega, HB36⟩
              case measure => simp [RowKit.intOf]; omega
            · obtain rfl : k = S.length := by omega
              go_wp2_with fail
              go_ret
              exact ⟨rfl, HB5.out.trans (HE32.out.low.mono (by omega))⟩
end Go.Proofs.YtpobnjbpglaohaaGreat

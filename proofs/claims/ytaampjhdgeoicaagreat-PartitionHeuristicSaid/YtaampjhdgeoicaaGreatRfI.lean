/- The reference's Solve. -/
import Derived.Test.YtaampjhdgeoicaaGreatMfA
import Derived.Test.YtaampjhdgeoicaaGreatRfH
namespace Go.Proofs.YtaampjhdgeoicaaGreat
set_option linter.unusedSimpArgs false
set_option linter.unusedVariables false
open Go Go.RowKit
set_option linter.unusedVariables false

/-- Three stores into the tableau's box leave the tableau's rows. -/
theorem TabT.put3 {w : World} {X m N1 : Nat} {F : Nat → Nat → Rat} {g : Nat → Rat} {f : Nat → Nat} {A0 A1 A2 : Option Addr} {c2 : Nat} {a0 a1 a2 u0 u1 u2 : Value} (h : TabT w m N1 F g f A0 A1 A2 c2) (hT : Tx w X a0 a1 a2) : TabT (((w.setCell ⟨X, 0, none⟩ u0).setCell ⟨X, 1, none⟩ u1).setCell ⟨X, 2, none⟩ u2) m N1 F g f A0 A1 A2 c2 where
 rows := by
  obtain ⟨rb, cp, h1, h2⟩ := h.rows
  refine ⟨rb, cp, fun h0 => ?_, fun i hi => put3_fr hT (h2 i hi)⟩
  obtain ⟨b, e, hr⟩ := h1 h0
  exact ⟨b, e, put3_row hT hr (by decide)⟩
 obj := by
  obtain ⟨q, e, hr⟩ := h.obj
  exact ⟨q, e, put3_fr hT hr⟩
 bas := fun h0 => by
  obtain ⟨b, e, hr⟩ := h.bas h0
  exact ⟨b, e, put3_row hT hr (by decide)⟩
 nil := h.nil
/-- The box of the tableau, and what it tells. -/
def TBox (w : World) (X m N1 : Nat) (F : Nat → Nat → Rat) (g : Nat → Rat) (f : Nat → Nat) : Prop := ∃ A0 A1 A2 c0 c1 c2, Tx w X (.slice A0 m c0) (.slice A1 N1 c1) (.slice A2 m c2) ∧ TabT w m N1 F g f A0 A1 A2 c2
theorem own_kw {w w' : World} {lo hi B s n : Nat} {e : TypeId} {v : Value} {xs : List Value} (h : w.ownsRow B e s v n xs) (k : Kw lo hi w w') (hb : ∀ g, v.ownBlock = some g → g < lo ∨ hi ≤ g) : w'.ownsRow B e s v n xs := by
 rcases h.2 with ⟨rfl, h0⟩ | ⟨g, cap, cur, rfl, hB, hg, hh⟩
 ·exact ⟨h.1, .inl ⟨rfl, h0⟩⟩
 ·exact ⟨h.1, .inr ⟨g, cap, cur, rfl, hB, (k.block g (Array.getElem?_eq_some_iff.1 hg).1 (hb g rfl)).trans hg, hh⟩⟩
theorem frq_succ (f : Nat → Rat) (k : Nat) : frq f (k + 1) = frq f k ++ [((f k).num, ((f k).den : Int))] := by unfold frq; rw [List.range_succ, List.map_append]; rfl
theorem facts_own2 {W : World} {B V k c : Nat} {A : Option Addr} {f : Nat → Rat} (h : W.ownsRow B 45 2 (.slice A k c) k (fc (frq f k))) (hV : V < B) (hk : k ≤ 1000) (x y : Value) : FactsAt ((W.setCell ⟨V, 0, none⟩ x).setCell ⟨V, 1, none⟩ y) ((W.setCell ⟨V, 0, none⟩ x).setCell ⟨V, 1, none⟩ y).heap.size A (frq f k) := by
 have h2 := own_set (u := y) (p := ⟨V, 1, none⟩) (own_set (u := x) (p := ⟨V, 0, none⟩) h hV) hV
 obtain ⟨A', c', e, _, hF⟩ := own_fracs (l := frq f k) (own_len h2 (frq_len f k).symm) (by rw [frq_len]; omega)
 rw [frq_len] at e
 injection e with e1 _ _
 rw [e1]
 exact hF
/-- What the reference's Solve answers. -/
def RSolRet (c : List (Int × Int)) (R : List (List (Int × Int))) (b : List (Int × Int)) (e : Ending) (w' : World) : Prop :=
 (chk37 c R b ≠ 0 ∧ e = .returned (.tuple #[.agg #[.int .i64 0, .int .i64 0], .slice none 0 0, .slice none 0 0, .int .i64 (chk37 c R b)])) ∨ (chk37 c R b = 0 ∧
  ((∃ cd, cd ≠ 0 ∧ Fin R.length (c.length + R.length) (T37 c R b) (.err cd) ∧ e = .returned (.tuple #[.agg #[.int .i64 0, .int .i64 0], .slice none 0 0, .slice none 0 0, .int .i64 cd])) ∨
   ∃ T A1 c1 A2 c2, Fin R.length (c.length + R.length) (T37 c R b) (.ok T) ∧ e = .returned (.tuple #[.agg #[.int .i64 T.z.num, .int .i64 T.z.den], .slice A1 c.length c1, .slice A2 R.length c2, .int .i64 0]) ∧ FactsAt w' w'.heap.size A1 (frq (xB R.length T) c.length) ∧ FactsAt w' w'.heap.size A2 (frq (fun i => -T.c (c.length + i)) R.length)))

set_option maxRecDepth 100000 in
set_option maxHeartbeats 8000000 in
theorem rsolve_any (c : List (Int × Int)) (R : List (List (Int × Int))) (b : List (Int × Int)) (Ac AR Ab : Option Addr) (cc cR cb : Nat) (w : World) (hc : FactsAt w w.heap.size Ac c) (hR : MxAt w AR R) (hb : FactsAt w w.heap.size Ab b) (zc : Ac = none → cc = 0) (zR : AR = none → cR = 0) (zb : Ab = none → cb = 0) :
  Calls Tryz.prog 51 #[.slice Ac c.length cc, .slice AR R.length cR, .slice Ab b.length cb] w fun e w' => RSolRet c R b e w' ∧ Below w.heap.size w w' := by
 have KC := Lib.hid (fun wx (h : Below w.heap.size w wx) => rcheck_any c R b Ac AR Ab cc cR cb wx (factsAt_up hc h) (hR.up h) (factsAt_up hb h) zc zR zb)
 by_cases h0 : chk37 c R b = 0
 case neg =>
  have HN := Lib.hid h0
  obtain ⟨cd, hcd⟩ : ∃ cd, cd = chk37 c R b := ⟨_, rfl⟩
  have Hcd := Lib.hid hcd
  rw [← hcd] at KC h0
  clear hcd hc hR hb zc zR zb
  go_enter Tryz.func51, Tryz.ntmps51
  go_wp2_with fail
  refine (KC.out _ (by exact bel)).mono ?_
  rintro e w3 ⟨rfl, hb3⟩
  have hv3 : Own2 w3 w.heap.size 0 0 := (Own2.new (T := 45)).up hb3
  have hbw : Below w.heap.size w w3 := ((Below.refl _ _).alloc (Nat.le_refl _) _).trans (hb3.mono (by simp))
  have z3 := hbw.size
  obtain ⟨u0, u1, u2, u3, u4⟩ := id hv3
  clear hb3 hv3
  go_wp2
  refine bodyPost_ret (v := .tuple #[.agg #[.int .i64 0, .int .i64 0], .slice none 0 0, .slice none 0 0, .int .i64 cd]) (by simp [results, Tryz.results51, go_sem, ↓IntWalk.iteOmega, *]) rfl ⟨.inl ⟨HN.out, by rw [← Hcd.out]⟩, ?_⟩
  exact bel
 case pos =>
  have KC2 := Lib.hid (fun wx h => (by have := KC.out wx h; rw [h0] at this; exact this : Calls Tryz.prog 81 #[.slice Ac c.length cc, .slice AR R.length cR, .slice Ab b.length cb] wx fun e w' => e = .returned (.int .i64 0) ∧ Below wx.heap.size wx w'))
  have KB := Lib.hid (fun wx (h : Below w.heap.size w wx) => rbegin_any c R b Ac AR Ab cc cR cb wx (factsAt_up hc h) (hR.up h) (factsAt_up hb h) zc h0)
  have hbd := chk_zero h0
  have n24 := hbd.1
  have m24 := hbd.2.1
  have HS0 := Lib.hid (t37_sml h0)
  have HT0 := Lib.hid (t37_tab h0)
  have H0 := Lib.hid h0
  clear hbd h0 hc hR hb KC zc zR zb
  obtain ⟨inf, hi, iz0, iz1, iz2⟩ := info_parts infoC
  go_enter Tryz.func51, Tryz.ntmps51
  go_wp2_with fail
  refine (KC2.out _ (by exact bel)).mono ?_
  rintro e w3 ⟨rfl, hb3⟩
  have hv3 : Own2 w3 w.heap.size 0 0 := (Own2.new (T := 45)).up hb3
  have hbw : Below w.heap.size w w3 := ((Below.refl _ _).alloc (Nat.le_refl _) _).trans (hb3.mono (by simp))
  have z3 := hbw.size
  clear hb3
  go_wp2_with fail
  refine (KB.out _ hbw).mono ?_
  rintro e w4 ⟨⟨v, rfl, A0, A1, A2, c0, c1, c2, rfl, hT⟩, hb4⟩
  have hv4 := hv3.up hb4
  have hbw4 := hbw.trans (hb4.mono z3)
  have z4 := hbw4.size
  obtain ⟨V, hV⟩ : ∃ V, V = w.heap.size := ⟨_, rfl⟩
  rw [← hV] at hv4 ⊢
  have Hle := Lib.hid (show w.heap.size ≤ V by omega)
  clear hb4 hv3 hbw hV z3
  obtain ⟨m, hm⟩ : ∃ m, m = R.length := ⟨_, rfl⟩
  obtain ⟨n, hn⟩ : ∃ n, n = c.length := ⟨_, rfl⟩
  obtain ⟨T0, hT0⟩ : ∃ T0, T0 = T37 c R b := ⟨_, rfl⟩
  rw [← hm, ← hn, ← hT0] at hT HS0 HT0
  have HE := Lib.hid (show ∀ (cd : Int) e w', cd ≠ 0 → Fin m (n + m) T0 (.err cd) → e = .returned (.tuple #[.agg #[.int .i64 0, .int .i64 0], .slice none 0 0, .slice none 0 0, .int .i64 cd]) → RSolRet c R b e w' from fun cd e w' h1 h2 h3 => .inr ⟨H0.out, .inl ⟨cd, h1, by rw [← hm, ← hn, ← hT0]; exact h2, h3⟩⟩)
  have HO := Lib.hid (show ∀ T A1 c1 A2 c2 e w', Fin m (n + m) T0 (.ok T) → e = .returned (.tuple #[.agg #[.int .i64 T.z.num, .int .i64 T.z.den], .slice A1 n c1, .slice A2 m c2, .int .i64 0]) → FactsAt w' w'.heap.size A1 (frq (xB m T) n) → FactsAt w' w'.heap.size A2 (frq (fun i => -T.c (n + i)) m) → RSolRet c R b e w' from fun T A1 c1 A2 c2 e w' h1 h2 h3 h4 => .inr ⟨H0.out, .inr ⟨T, A1, c1, A2, c2, by rw [← hm, ← hn, ← hT0]; exact h1, by rw [← hm, ← hn]; exact h2, by rw [← hm, ← hn]; exact h3, by rw [← hm, ← hn]; exact h4⟩⟩)
  have hn24 : n ≤ 24 := by omega
  have hm24 : m ≤ 24 := by omega
  rw [← hn, ← hm]
  clear hm hn hT0
  obtain ⟨N, hN⟩ : ∃ N, N = n + m := ⟨_, rfl⟩
  rw [← hN] at hT HS0 HT0 HE HO ⊢
  have HN := Lib.hid hN
  have hN48 : N ≤ 48 := by omega
  obtain ⟨P, hP⟩ : ∃ P, P = 2 ^ N := ⟨_, rfl⟩
  have HP := Lib.hid (show ∀ q T, Rn m N T0 q T → q < P from fun q T h => by rw [hP]; exact rn_short HT0.out h)
  obtain ⟨N1, hN1⟩ : ∃ N1, N1 = N + 1 := ⟨_, rfl⟩
  have HN1 := Lib.hid hN1
  have q1 : IntKind.i64.wrap ((N1 : Int) - 1) = (N : Int) := by rw [IntWalk.i64_in _ (by omega)]; omega
  have hN1' : N < N1 := by omega
  have hN2 : N1 ≤ 49 := by omega
  rw [← hN1] at hT ⊢
  clear hP KC2 KB hN hN1
  go_upto_region 5 with fail
  have hX := Tx.new w4 (.slice A0 m c0) (.slice A1 N1 c1) (.slice A2 m c2)
  have hal := (Below.refl w4.heap.size w4).alloc (Nat.le_refl _) (.cells #[.slice A0 m c0, .slice A1 N1 c1, .slice A2 m c2] 152)
  obtain ⟨w5, hw5⟩ : ∃ w5, w5 = w4.alloc (.cells #[.slice A0 m c0, .slice A1 N1 c1, .slice A2 m c2] 152) := ⟨_, rfl⟩
  obtain ⟨X, hXX⟩ : ∃ X, X = w4.heap.size := ⟨_, rfl⟩
  rw [← hw5] at hX hal ⊢
  rw [← hXX] at hX ⊢
  have hT5 := hT.up hal
  have hv5 := hv4.up hal
  have hbw5 := hbw4.trans (hal.mono z4)
  have hXB := Lib.hid (show TBox w5 X m N1 (rowF T0 N) (objF T0 N) T0.B from ⟨_, _, _, _, _, _, hX, hT5⟩)
  have hwX : w.heap.size ≤ X := by omega
  have HVX := Lib.hid (show V < X by have := hv4.lt; omega)
  clear hw5 hXX hX hal hT hT5 hv4 hbw4 z4
  go_wp2
  go_loopg [12] (P) (fun gg v wr => ∃ (q p : Nat) (T : TB) (g : Bool), gg + q = P ∧ v = .bool g ∧ Hid (Rn m N T0 p T) ∧ Hid ((g = true ∧ q = p) ∨ (g = false ∧ Last m N T (.ok T))) ∧ Hid (TBox wr X m N1 (rowF T N) (objF T N) T.B) ∧ Own2 wr V 0 0 ∧ Below w.heap.size w wr)
  case atStart => exact ⟨0, 0, T0, true, rfl, rfl, Lib.hid .zero, Lib.hid (.inl ⟨rfl, rfl⟩), hXB, hv5, hbw5⟩
  case round =>
   clear hv5 hbw5 hXB
   obtain ⟨q, p, T, g, hgq, rfl, hrn, hg, hXB, hv, hbel⟩ := hrel
   have Hgq := Lib.hid hgq
   clear hgq
   have hsm := Lib.hid (rn_sml HS0.out hrn.out)
   obtain ⟨A0, A1, A2, c0, c1, c2, hX, hT⟩ := hXB.out
   obtain ⟨w5, hw5⟩ : ∃ w5 : World, w5 = wr := ⟨_, rfl⟩
   rw [← hw5] at hX hT hv hbel ⊢
   clear hw5 hXB
   have z5 := hbel.size
   have HX := Lib.hid hX
   have HT := Lib.hid hT
   have HV := Lib.hid hv
   have x0 := hX.c0
   have x1 := hX.c1
   have x2 := hX.c2
   have xl := hX.lt
   clear hX hT hv
   rcases hg.out with ⟨rfl, rfl⟩ | ⟨rfl, hLast⟩
   ·have KS := Lib.hid (step_any T m N (.agg #[.slice A0 m c0, .slice A1 N1 c1, .slice A2 m c2]) w5 ⟨A0, A1, A2, c0, c1, c2, by rw [HN1.out], by have := HT.out; rw [HN1.out] at this; exact this⟩ hsm.out hm24 hN48)
    clear hg
    go_wp2_with fail
    refine KS.out.mono ?_
    rintro e w6 ⟨⟨v', g', cd, rfl, hcase⟩, hb6⟩
    have hbel6 := hbel.trans (hb6.mono z5)
    have z6 := hbel6.size
    have HX6 := Lib.hid (HX.out.up hb6)
    have HV6 := Lib.hid (HV.out.up hb6)
    clear x0 x1 x2 xl hb6 KS
    have xl := HX6.out.lt
    have y0 := HX6.out.fz 0
    have y1 := HX6.out.fz 1
    have y2 := HX6.out.fz 2
    have x0 := HX6.out.c0
    have x1 := HX6.out.c1
    have x2 := HX6.out.c2
    rcases hcase with ⟨rfl, rfl, hT6, hL6⟩ | ⟨rfl, rfl, k, r, he, hra, hl, hpv, hT6⟩ | ⟨rfl, hcd, hT6, hL6⟩
    ·obtain ⟨B0, B1, B2, d0, d1, d2, rfl, hT6⟩ := hT6
     rw [← HN1.out] at hT6 ⊢
     have HT6 := Lib.hid (show TBox (((w6.setCell ⟨X, 0, none⟩ (.slice B0 m d0)).setCell ⟨X, 1, none⟩ (.slice B1 N1 d1)).setCell ⟨X, 2, none⟩ (.slice B2 m d2)) X m N1 (rowF T N) (objF T N) T.B from ⟨B0, B1, B2, d0, d1, d2, ((HX6.out.set0 _).set1 _).set2 _, hT6.put3 HX6.out⟩)
     have HL6 := Lib.hid hL6
     have Hq := HP.out _ _ hrn.out
     clear hT6 hL6
     go_wp2
     go_roundg (P - (q + 1))
     case measure => have := Hgq.out; omega
     case rel => exact ⟨q + 1, q, T, false, by omega, rfl, hrn, Lib.hid (.inr ⟨rfl, HL6.out⟩), HT6, HV6.out.upB (put3_below (Below.refl X w6) (Nat.le_refl _)) HVX.out, put3_below hbel6 hwX⟩
    ·obtain ⟨B0, B1, B2, d0, d1, d2, rfl, hT6⟩ := hT6
     rw [← HN1.out] at hT6 ⊢
     have Hrn := Lib.hid (Rn.succ hrn.out he hra hl hpv)
     have Hq := HP.out _ _ hrn.out
     have HT6 := Lib.hid (show TBox (((w6.setCell ⟨X, 0, none⟩ (.slice B0 m d0)).setCell ⟨X, 1, none⟩ (.slice B1 N1 d1)).setCell ⟨X, 2, none⟩ (.slice B2 m d2)) X m N1 (rowF (piv T r k) N) (objF (piv T r k) N) (piv T r k).B from ⟨B0, B1, B2, d0, d1, d2, ((HX6.out.set0 _).set1 _).set2 _, hT6.put3 HX6.out⟩)
     clear hT6 he hra hl hpv
     go_wp2
     go_roundg (P - (q + 1))
     case measure => have := Hgq.out; omega
     case rel => exact ⟨q + 1, q + 1, _, true, by omega, rfl, Hrn, Lib.hid (.inl ⟨rfl, rfl⟩), HT6, HV6.out.upB (put3_below (Below.refl X w6) (Nat.le_refl _)) HVX.out, put3_below hbel6 hwX⟩
    ·obtain ⟨B0, B1, B2, d0, d1, d2, rfl, hT6⟩ := hT6
     rw [← HN1.out]
     have HF := Lib.hid (show Fin m N T0 (.err cd) from ⟨q, T, hrn.out, hL6⟩)
     have Hcd := Lib.hid hcd
     clear hT6 hL6
     obtain ⟨v0, v1, v2, v3, v4⟩ := id HV6.out
     have hVX := HVX.out
     have hVn : V ≠ X := by omega
     have hVn' : X ≠ V := by omega
     go_wp2
     refine bodyPost_ret (v := .tuple #[.agg #[.int .i64 0, .int .i64 0], .slice none 0 0, .slice none 0 0, .int .i64 cd]) (by simp [results, Tryz.results51, go_sem, ↓IntWalk.iteOmega, *]) rfl ⟨HE.out _ _ _ Hcd.out HF.out rfl, ?_⟩
     have := Hle.out
     have := put3_below (u0 := .slice B0 m d0) (u1 := .slice B1 N1 d1) (u2 := .slice B2 m d2) hbel6 hwX
     exact bel
   ·have HF := Lib.hid (show Fin m N T0 (.ok T) from ⟨p, T, hrn.out, hLast⟩)
    have HTab := Lib.hid (rn_tab HT0.out hrn.out)
    have HT5 := Lib.hid (fun wx (h : Below w5.heap.size w5 wx) => (HT.out.up h).at_ (by omega) (by omega))
    clear hg hLast
    go_wp2
    clear x0 x1 x2 xl
    go_loopw [15, 51] (fun v i wr => ∃ (j : Nat) (A' : Option Addr) (c' : Nat), j ≤ n ∧ i = .int .i64 j ∧ v = .slice A' j c' ∧ Hid (wr.ownsRow w5.heap.size 45 2 (.slice A' j c') j (fc (frq (xB m T) j))) ∧ Below w5.heap.size w5 wr) (fun _ i _ => n - (intOf i).toNat)
    case atStart => exact ⟨0, none, 0, by omega, rfl, rfl, Lib.hid (World.ownsRow_nil _ _ _ _), Below.refl _ _⟩
    case round =>
     obtain ⟨j, A', c', hj, rfl, rfl, hown, hbj⟩ := hrel
     obtain ⟨w6, hw6⟩ : ∃ w6 : World, w6 = wr := ⟨_, rfl⟩
     rw [← hw6] at hown hbj ⊢
     clear hw6
     have z6 := hbj.size
     by_cases hltj : j < n
     ·have j0 : (0 : Int) ≤ (j : Int) := by omega
      have j1 : (j : Int) < (n : Int) := by omega
      go_wp2_with fail
      refine (rz_any _).mono ?_
      rintro e w7 ⟨rfl, hb7⟩
      have hbj7 := hbj.trans (hb7.mono z6)
      have z7 := hbj7.size
      have z67 := hb7.size
      go_upto_region 17 with fail
      have hW := Own2.new (w := w7) (T := 45) (n := 0) (d := 1)
      have hal := (Below.refl w7.heap.size w7).alloc (Nat.le_refl _) (.cells #[.int .i64 0, .int .i64 1] 45)
      obtain ⟨w8, hw8⟩ : ∃ w8, w8 = w7.alloc (.cells #[.int .i64 0, .int .i64 1] 45) := ⟨_, rfl⟩
      obtain ⟨VB, hVB⟩ : ∃ VB, VB = w7.heap.size := ⟨_, rfl⟩
      rw [← hw8] at hW hal ⊢
      rw [← hVB] at hW ⊢
      have hbj8 := hbj7.trans (hal.mono z7)
      have z8 := hbj8.size
      have hVB5 : w5.heap.size ≤ VB := by omega
      have HNE := Lib.hid (show ∀ g, (Value.slice A' j c').ownBlock = some g → g < VB ∨ VB + 1 ≤ g from fun g h => by have := (hown.out.lt g h).2; omega)
      have Ho8 := Lib.hid (own_below (own_below hown.out hb7) hal)
      have HW := Lib.hid (show Own2 w8 VB (xK T 0 j).num (xK T 0 j).den from hW)
      have hX8 := HX.out.up hbj8
      have x0 := hX8.c0
      have x1 := hX8.c1
      have x2 := hX8.c2
      have xl := hX8.lt
      clear hW hal hw8 hVB hX8 hbj hbj7 hown z7 z67 hb7 z6
      go_wp2
      clear x0 x1 x2 xl
      go_loopw [58] (fun iv wr => ∃ t : Nat, t ≤ m ∧ iv = .int .i64 t ∧ Hid (Own2 wr VB (xK T t j).num (xK T t j).den) ∧ Kw VB (VB + 1) w8 wr) (fun iv _ => m - (intOf iv).toNat)
      case atStart => exact ⟨0, by omega, rfl, HW, Kw.refl _ _ _⟩
      case round =>
       clear HW
       obtain ⟨t, ht, rfl, hown2, hkw⟩ := hrel
       obtain ⟨w9, hw9⟩ : ∃ w9 : World, w9 = wr := ⟨_, rfl⟩
       rw [← hw9] at hown2 hkw ⊢
       clear hw9
       have hb59 := hbj8.trans (hkw.below hVB5 z8)
       have z9 := hb59.size
       have HT9 := Lib.hid (HT5.out _ hb59)
       have hX9 := HX.out.up hb59
       have x0 := hX9.c0
       have x1 := hX9.c1
       have x2 := hX9.c2
       have xl := hX9.lt
       clear hX9
       by_cases hltt : t < m
       ·obtain ⟨bb, ob, eb, hbb, hcb⟩ := HT9.out.bas_at hltt
        obtain ⟨br, orr, er, hbr, hcr⟩ := HT9.out.row_at hltt
        subst eb er
        have d0 := hcb t hltt
        obtain ⟨S, cS, d1, hS⟩ := hcr t hltt
        obtain ⟨bs, os, rfl, hbs, hcs⟩ := frq_cells hS (by omega)
        obtain ⟨d2, d3⟩ := hcs N (by omega)
        rw [rowF_last] at d2 d3
        have t0 : (0 : Int) ≤ (t : Int) := by omega
        have t1 : (t : Int) < (m : Int) := by omega
        have nn0 : (0 : Int) ≤ (N : Int) := by omega
        have nn1 : (N : Int) < (N1 : Int) := by omega
        clear hcb hcr hcs hS
        by_cases hB : T.B t = j
        ·have Hk := Lib.hid (xK_new HTab.out hltt hB)
         rw [hB] at d0
         obtain ⟨u0, u1, u2, u3, u4⟩ := id hown2.out
         have HU := Lib.hid (show Own2 ((w9.setCell ⟨VB, 0, none⟩ (.int .i64 (T.b t).num)).setCell ⟨VB, 1, none⟩ (.int .i64 (T.b t).den)) VB (xK T (t + 1) j).num (xK T (t + 1) j).den from by rw [Hk.out]; exact hown2.out.put)
         clear hB
         go_wp2
         go_roundw
         case rel => exact ⟨t + 1, by omega, by go_num, HU, (hkw.set (p := ⟨VB, 0, none⟩) (Nat.le_refl _) (Nat.lt_succ_self _) _).set (p := ⟨VB, 1, none⟩) (Nat.le_refl _) (Nat.lt_succ_self _) _⟩
         case measure => simp [intOf]; omega
        ·have Hk := Lib.hid (show Own2 w9 VB (xK T (t + 1) j).num (xK T (t + 1) j).den from by rw [xK_skip hB]; exact hown2.out)
         have e1 : ¬ ((T.B t : Nat) : Int) = (j : Int) := by omega
         have e2 : (((T.B t : Nat) : Int) == (j : Int)) = false := by simpa using e1
         clear hB
         go_wp2
         go_roundw
         case rel => exact ⟨t + 1, by omega, by go_num, Hk, hkw⟩
         case measure => simp [intOf]; omega
       ·have : t = m := by omega
        subst this
        have HS := Lib.hid (show frq (xB t T) (j + 1) = frq (xB t T) j ++ [((xK T t j).num, ((xK T t j).den : Int))] from frq_succ _ _)
        have Hl1 := Lib.hid (frq_len (xB t T) j)
        have Hl2 := Lib.hid (frq_len (xB t T) (j + 1))
        obtain ⟨pn, hpn⟩ : ∃ pn, pn = (xK T t j).num := ⟨_, rfl⟩
        obtain ⟨pd, hpd⟩ : ∃ pd, pd = ((xK T t j).den : Int) := ⟨_, rfl⟩
        rw [← hpn, ← hpd] at hown2 HS
        obtain ⟨u0, u1, u2, u3, u4⟩ := id hown2.out
        have Ho9 := Lib.hid (own_kw Ho8.out hkw HNE.out)
        clear hpn hpd hkw Ho8 HNE hbj8 z8 hown2
        go_wp2_with (at_builtin; refine wpList_push rfl _ _ 37 rfl w5.heap.size 45 inf (.agg #[.int .i64 0, .int .i64 0]) 2 16 undC hi iz0 iz1 iz2 rfl (by decide) (by decide) _ j (fc (frq (xB t T) j)) rfl (Ho9.out.alloc _) w9.heap.size 45 [.int .i64 pn, .int .i64 pd] rfl rfl (heap_alloc_new _ _) (two_one rfl rfl) (by omega) (by first | omega | (simp; omega)) (B := w5.heap.size) (W := w5) (hb59.alloc z9 _) (Nat.le_refl _) ?_; intro v8 wa ho8 hg8 hat8 hb8; have ho9 : wa.ownsRow w5.heap.size 45 2 v8 (j + 1) (fc (frq (xB t T) (j + 1))) := (by rw [HS.out, fc_app]; exact ho8); obtain ⟨A8, c8, rfl⟩ := own_shape ho9; have Ho10 := Lib.hid ho9; clear ho8 ho9 hg8 hat8)
        go_roundw
        case rel => exact ⟨j + 1, A8, c8, by omega, by go_num, rfl, Ho10, hb8⟩
        case measure => simp [intOf]; omega
     ·have : j = n := by omega
      subst this
      have HOx := Lib.hid hown.out
      clear hown
      go_wp2
      go_loopw [16, 82] (fun v i wr => ∃ (k : Nat) (A2' : Option Addr) (c2' : Nat), k ≤ m ∧ i = .int .i64 k ∧ v = .slice A2' k c2' ∧ Hid (wr.ownsRow w6.heap.size 45 2 (.slice A2' k c2') k (fc (frq (fun i => -T.c (j + i)) k))) ∧ Below w6.heap.size w6 wr) (fun _ i _ => m - (intOf i).toNat)
      case atStart => exact ⟨0, none, 0, by omega, rfl, rfl, Lib.hid (World.ownsRow_nil _ _ _ _), Below.refl _ _⟩
      case round =>
       obtain ⟨k, A2', c2', hk, rfl, rfl, hown, hbk⟩ := hrel
       obtain ⟨w7, hw7⟩ : ∃ w7 : World, w7 = wr := ⟨_, rfl⟩
       rw [← hw7] at hown hbk ⊢
       clear hw7
       have z7 := hbk.size
       have hb57 := hbj.trans (hbk.mono z6)
       have z57 := hb57.size
       have hX9 := HX.out.up hb57
       have x0 := hX9.c0
       have x1 := hX9.c1
       have x2 := hX9.c2
       have xl := hX9.lt
       obtain ⟨b1, o1, ea, hb1, hc1⟩ := frq_cells (HT5.out _ hb57).obj (by omega)
       subst ea
       clear hX9
       by_cases hltk : k < m
       ·have hjk : j + k < N := by have := HN.out; omega
        obtain ⟨d2, d3⟩ := hc1 (j + k) (by omega)
        rw [objF_lt hjk] at d2 d3
        have hrp := hsm.out.c (j + k) hjk
        have hB1 : -9223372036854775807 ≤ (T.c (j + k)).num ∧ (T.c (j + k)).num ≤ 9223372036854775807 := by have := hrp.1; unfold aI at this; omega
        have hSS := frq_succ (fun i => -T.c (j + i)) k
        rw [Rat.neg_num, Rat.neg_den] at hSS
        have HS := Lib.hid hSS
        have k0 : (0 : Int) ≤ ((j + k : Nat) : Int) := by omega
        have k1 : ((j + k : Nat) : Int) < (N1 : Int) := by omega
        have k2 : (k : Int) < (m : Int) := by omega
        have k3 : IntKind.i64.wrap ((j : Int) + (k : Int)) = ((j + k : Nat) : Int) := by rw [IntWalk.i64_in _ (by omega)]; omega
        obtain ⟨pn, hpn⟩ : ∃ pn, pn = (T.c (j + k)).num := ⟨_, rfl⟩
        obtain ⟨pd, hpd⟩ : ∃ pd, pd = ((T.c (j + k)).den : Int) := ⟨_, rfl⟩
        rw [← hpn] at d2 hB1 HS
        rw [← hpd] at d3 HS
        obtain ⟨jk, hjk2⟩ : ∃ jk, jk = j + k := ⟨_, rfl⟩
        rw [← hjk2] at d2 d3 k0 k1 k3
        have KN := Lib.hid (fun wx => neg_any pn pd wx hB1.1 hB1.2)
        clear hc1 hrp hSS hpn hpd hjk hjk2 hB1
        go_wp2_with fail
        refine (KN.out _).mono ?_
        rintro e w8 ⟨rfl, hb8⟩
        have hbk8 := hbk.trans (hb8.mono z7)
        have z8 := hbk8.size
        have Ho8 := Lib.hid (own_below hown.out hb8)
        go_wp2_with (at_builtin; refine wpList_push rfl _ _ 37 rfl w6.heap.size 45 inf (.agg #[.int .i64 0, .int .i64 0]) 2 16 undC hi iz0 iz1 iz2 rfl (by decide) (by decide) _ k (fc (frq (fun i => -T.c (j + i)) k)) rfl (Ho8.out.alloc _) w8.heap.size 45 [.int .i64 (-pn), .int .i64 pd] rfl rfl (heap_alloc_new _ _) (two_one rfl rfl) (by omega) (by first | omega | (simp; omega)) (B := w6.heap.size) (W := w6) (hbk8.alloc z8 _) (Nat.le_refl _) ?_; intro v8 wa ho8 hg8 hat8 hb8; have ho9 : wa.ownsRow w6.heap.size 45 2 v8 (k + 1) (fc (frq (fun i => -T.c (j + i)) (k + 1))) := (by rw [HS.out, fc_app]; exact ho8); obtain ⟨A8, c8, rfl⟩ := own_shape ho9; have Ho10 := Lib.hid ho9; clear ho8 ho9 hg8 hat8)
        go_roundw
        case rel => exact ⟨k + 1, A8, c8, by omega, by go_num, rfl, Ho10, hb8⟩
        case measure => simp [intOf]; omega
       ·have : k = m := by omega
        subst this
        have HOy := Lib.hid hown.out
        obtain ⟨d2, d3⟩ := hc1 N (by omega)
        rw [objF_last] at d2 d3
        have hB1 : -9223372036854775807 ≤ (-T.z).num ∧ (-T.z).num ≤ 9223372036854775807 := by have := hsm.out.z.1; rw [Rat.neg_num]; unfold aI at this; omega
        have Hn := Lib.hid (show -(-T.z).num = T.z.num by rw [Rat.neg_num]; omega)
        have Hd := Lib.hid (show ((-T.z).den : Int) = T.z.den by rw [Rat.neg_den])
        obtain ⟨pn, hpn⟩ : ∃ pn, pn = (-T.z).num := ⟨_, rfl⟩
        obtain ⟨pd, hpd⟩ : ∃ pd, pd = ((-T.z).den : Int) := ⟨_, rfl⟩
        rw [← hpn] at d2 hB1 Hn
        rw [← hpd] at d3 Hd
        have nn0 : (0 : Int) ≤ (N : Int) := by omega
        have nn1 : (N : Int) < (N1 : Int) := by omega
        have KN := Lib.hid (fun wx => neg_any pn pd wx hB1.1 hB1.2)
        clear hc1 hpn hpd hB1 hown
        go_wp2_with fail
        refine (KN.out _).mono ?_
        rintro e w8 ⟨rfl, hb8⟩
        have hb58 := hb57.trans (hb8.mono z57)
        have HV8 := Lib.hid (HV.out.up hb58)
        obtain ⟨u0, u1, u2, u3, u4⟩ := id HV8.out
        have HOx8 := Lib.hid (own_below (own_below HOx.out hbk) hb8)
        have HOy8 := Lib.hid (own_below HOy.out hb8)
        have HVl := Lib.hid (HV.out.lt)
        have hbw8 := hbel.trans (hb58.mono z5)
        rw [Hn.out, Hd.out]
        go_wp2
        refine bodyPost_ret (v := .tuple #[.agg #[.int .i64 T.z.num, .int .i64 T.z.den], .slice A' j c', .slice A2' k c2', .int .i64 0]) (by simp [results, Tryz.results51, go_sem, ↓IntWalk.iteOmega, *]) rfl ?_
        refine ⟨HO.out _ _ _ _ _ _ _ HF.out rfl (facts_own2 HOx8.out HVl.out (by omega) _ _) (facts_own2 HOy8.out (by have := HVl.out; omega) (by omega) _ _), ?_⟩
        have := Hle.out
        exact bel

end Go.Proofs.YtaampjhdgeoicaaGreat

/- simplex: Solve. -/
import Derived.Test.YtaampjhdgeoicaaGreatMfA
import Derived.Test.YtaampjhdgeoicaaGreatSxD
import Derived.Test.YtaampjhdgeoicaaGreatSxP
import Derived.Test.YtaampjhdgeoicaaGreatSxL
import Derived.Deep.OwnRows
namespace Go.Proofs.YtaampjhdgeoicaaGreat
set_option linter.unusedSimpArgs false
set_option linter.unusedVariables false
open Go Go.RowKit
set_option linter.unusedVariables false

/-- make([]Frac, N). -/
def zrow (N : Nat) : Array Value := madeCells #[.int .i64 0, .int .i64 0] (N * 2)
theorem zrow_row (w : World) (N : Nat) : rowGe (w.alloc (.cells (zrow N) 45)) w.heap.size 45 (N * 2) fun _ => .int .i64 0 :=
 ⟨zrow N, heap_alloc_new _ _, by unfold zrow; rw [size_madeCells]; exact Nat.le_refl _, fun i hi => by
  unfold zrow madeCells
  have h2 : i % 2 = 0 ∨ i % 2 = 1 := by omega
  rcases h2 with h2 | h2 <;> simp [hi, h2]⟩
theorem zrow_row2 (w : World) (o : Obj) (N : Nat) : rowGe ((w.alloc o).alloc (.cells (zrow N) 45)) (w.heap.size + 1) 45 (N * 2) fun _ => .int .i64 0 := by
 have := zrow_row (w.alloc o) N
 rw [World.size_alloc] at this
 exact this
theorem make_fr (N : Nat) (hN : N ≤ 100) (w : World) : (Instr.makeSlice 37 (.int .i64 (N : Int)) (.int .i64 (N : Int))).run Tryz.prog w = .ok (.slice (some ⟨w.heap.size, 0, none⟩) N N) (w.alloc (.cells (zrow N) 45)) := by
 obtain ⟨i, hi, hz, hs, hb⟩ := info_parts infoC
 have h := run_make (P := Tryz.prog) w 37 45 i _ undC hi hz .i64 .i64 (N : Int) (N : Int) (by omega) (Int.le_refl _) (by rw [hb]; omega) (by omega)
 rw [Int.toNat_natCast, hs] at h
 exact h
/-- A row of which the first k numbers are laid. -/
def prg (k : Nat) (f : Nat → Rat) (i : Nat) : Value := if i < k * 2 then frc f i else .int .i64 0
section
variable {w : World} {b N k : Nat} {f : Nat → Rat} {p q : Int}
theorem prg_start (h : rowGe w b 45 (N * 2) fun _ => .int .i64 0) : rowGe w b 45 (N * 2) (prg 0 f) := h.congr fun i _ => by unfold prg; rw [if_neg (by omega)]
theorem prg_cell (h : rowGe w b 45 (N * 2) (prg k f)) (hk : k < N) : w.cell? ⟨b, k * 2, none⟩ = some (.int .i64 0) ∧ w.cell? ⟨b, k * 2 + 1, none⟩ = some (.int .i64 0) := by
 have h1 := rowGe.cell h (i := k * 2) (by omega)
 have h2 := rowGe.cell h (i := k * 2 + 1) (by omega)
 unfold prg at h1 h2
 rw [if_neg (by omega)] at h1 h2
 exact ⟨h1, h2⟩
theorem prg_step (h : rowGe w b 45 (N * 2) (prg k f)) (hp : p = (f k).num) (hq : q = (f k).den) : rowGe ((w.setCell ⟨b, k * 2, none⟩ (.int .i64 p)).setCell ⟨b, k * 2 + 1, none⟩ (.int .i64 q)) b 45 (N * 2) (prg (k + 1) f) := by
 refine (rowGe.set (rowGe.set h _ _) _ _).congr fun i hi => ?_
 by_cases e1 : i = k * 2 + 1
 ·subst e1
  rw [if_pos rfl]; unfold prg; rw [if_pos (by omega), frc_den, hq]
 ·rw [if_neg e1]
  by_cases e2 : i = k * 2
  ·subst e2
   rw [if_pos rfl]; unfold prg; rw [if_pos (by omega), frc_num, hp]
  ·rw [if_neg e2]
   unfold prg
   by_cases e3 : i < k * 2
   ·rw [if_pos e3, if_pos (by omega)]
   ·rw [if_neg e3, if_neg (by omega)]
theorem prg_end (h : rowGe w b 45 (N * 2) (prg N f)) : FrRow w b N f := h.congr fun i hi => by unfold prg; rw [if_pos hi]
end
/-- The solution while the rows are read. -/
def xK (T : TB) (k : Nat) (j : Nat) : Rat := sg k fun i => if T.B i = j then T.b i else 0
theorem xK_skip {T : TB} {k j : Nat} (h : T.B k ≠ j) : xK T (k + 1) j = xK T k j := by show sg k _ + (if T.B k = j then T.b k else 0) = sg k _; rw [if_neg h]; grind
theorem xK_new {m N : Nat} {T : TB} (ht : Tab m N T) {k j : Nat} (hk : k < m) (h : T.B k = j) : xK T (k + 1) j = T.b k := by
 show sg k _ + (if T.B k = j then T.b k else 0) = _
 rw [if_pos h, sg_zero' fun i hi => if_neg fun e => by have := ht.inj (Nat.lt_trans hi hk) hk (e.trans h.symm); omega]
 grind
theorem xK_set {m N n : Nat} {T : TB} (ht : Tab m N T) {k : Nat} (hk : k < m) : ∀ j, j < n → updF (xK T k) (T.B k) (T.b k) j = xK T (k + 1) j := fun j _ => by
 unfold updF
 by_cases e : j = T.B k
 ·subst e; rw [if_pos rfl, xK_new ht hk rfl]
 ·rw [if_neg e, xK_skip (Ne.symm e)]
theorem goal_rt {w : World} {B X m n N : Nat} {L : TbL} {T : TB} (hG : TbG B X m n N L) (hT : TbM w X m n N L T) : RtAt w L.A5 N T.c := by
 have hs := hG.sm
 refine ⟨by omega, fun h0 => ?_⟩
 rw [hG.e5 h0]
 exact ((hT.goal h0).rt (by omega)).2 h0
theorem Own2.upB {w w' : World} {b B : Nat} {n d : Int} (h : Own2 w b n d) (hb : Below B w w') (hlt : b < B) : Own2 w' b n d :=
 ⟨Nat.lt_of_lt_of_le h.lt hb.size, (hb.cell (p := ⟨b, 0, none⟩) hlt).trans h.c0, (hb.cell (p := ⟨b, 1, none⟩) hlt).trans h.c1, (hb.frozen (p := ⟨b, 0, none⟩) hlt).trans h.f0, (hb.frozen (p := ⟨b, 1, none⟩) hlt).trans h.f1⟩
theorem fr_far {w : World} {b N V : Nat} {f : Nat → Rat} {x y : Value} (h : FrRow w b N f) (hn : b ≠ V) : FrRow ((w.setCell ⟨V, 0, none⟩ x).setCell ⟨V, 1, none⟩ y) b N f :=
 h.of_block ((Below.heap_setCell _ _ _ _ (show b ≠ V from hn)).trans (Below.heap_setCell _ _ _ _ (show b ≠ V from hn)))
theorem ent_ix {N : Nat} {T : TB} {k : Nat} (h1 : k < N) (h2 : 0 < T.c k) (h3 : ∀ j, j < k → ¬ 0 < T.c j) : Ent N T k := ⟨h1, h2, h3⟩
/-- A program's first tableau. -/
def T37 (c : List (Int × Int)) (R : List (List (Int × Int))) (b : List (Int × Int)) : TB := tb0 c.length (fun i j => rl (mr R i) j) (rl b) (rl c)
theorem t37_sml {c : List (Int × Int)} {R : List (List (Int × Int))} {b : List (Int × Int)} (h : chk37 c R b = 0) : Sml R.length (c.length + R.length) (T37 c R b) := by
 obtain ⟨n24, m24, hmb, hrl, hpc, hpb, hpr, hnn⟩ := chk_zero h
 refine ⟨fun i hi j hj => ?_, fun i hi => ?_, fun j hj => ?_, rep_zero⟩
 ·show Rep (if j < c.length then rl (mr R i) j else if j = c.length + i then 1 else 0)
  split
  ·exact rl_rep (prL_iff.1 (hpr i hi) j (by rw [hrl i hi]; assumption))
  ·split
   ·exact rep_one
   ·exact rep_zero
 ·exact rl_rep (prL_iff.1 hpb i (by omega))
 ·show Rep (if j < c.length then rl c j else 0)
  split
  ·exact rl_rep (prL_iff.1 hpc j (by assumption))
  ·exact rep_zero
theorem rl_nn {l : List (Int × Int)} {j : Nat} (h : prB (fv l j) (fx l j) = true) (h0 : 0 ≤ fv l j) : 0 ≤ rl l j := by
 have h1 := (rl_num h).1
 exact Rat.num_nonneg.1 (by omega)
theorem t37_tab {c : List (Int × Int)} {R : List (List (Int × Int))} {b : List (Int × Int)} (h : chk37 c R b = 0) : Tab R.length (c.length + R.length) (T37 c R b) := by
 obtain ⟨n24, m24, hmb, hrl, hpc, hpb, hpr, hnn⟩ := chk_zero h
 exact tb0_tab fun i hi => rl_nn (prL_iff.1 hpb i (by omega)) (hnn i (by omega))
/-- What Solve answers. -/
def SolErr (code : Int) (e : Ending) : Prop := e = .returned (.tuple #[.agg #[.int .i64 0, .int .i64 0], .slice none 0 0, .slice none 0 0, .iface 49 (.int .i64 code)])
def SolOk (n m : Nat) (T : TB) (e : Ending) (w' : World) : Prop := ∃ bx bY, e = .returned (.tuple #[.agg #[.int .i64 T.z.num, .int .i64 T.z.den], .slice (some ⟨bx, 0, none⟩) n n, .slice (some ⟨bY, 0, none⟩) m m, .nilIface]) ∧ FrRow w' bx n (xB m T) ∧ FrRow w' bY m (fun i => -T.c (n + i))
def SolRet (c : List (Int × Int)) (R : List (List (Int × Int))) (b : List (Int × Int)) (e : Ending) (w' : World) : Prop :=
 (chk37 c R b ≠ 0 ∧ SolErr (chk37 c R b) e) ∨ (chk37 c R b = 0 ∧ ((∃ cd, Fin R.length (c.length + R.length) (T37 c R b) (.err cd) ∧ SolErr cd e) ∨ ∃ T, Fin R.length (c.length + R.length) (T37 c R b) (.ok T) ∧ SolOk c.length R.length T e w'))

set_option maxRecDepth 100000 in
set_option maxHeartbeats 8000000 in
theorem solve_any (c : List (Int × Int)) (R : List (List (Int × Int))) (b : List (Int × Int)) (Ac AR Ab : Option Addr) (cc cR cb : Nat) (w : World) (hc : FactsAt w w.heap.size Ac c) (hR : MxAt w AR R) (hb : FactsAt w w.heap.size Ab b) :
  Calls Tryz.prog 72 #[.slice Ac c.length cc, .slice AR R.length cR, .slice Ab b.length cb] w fun e w' => SolRet c R b e w' ∧ Below w.heap.size w w' := by
 have KC := Lib.hid (fun wx (h : Below w.heap.size w wx) => scheck_any c R b Ac AR Ab cc cR cb wx (factsAt_up hc h) (hR.up h) (factsAt_up hb h))
 by_cases h0 : chk37 c R b = 0
 case neg =>
  have HV := Lib.hid (errV_ne h0)
  have KC2 := Lib.hid (fun wx h => HV.out ▸ KC.out wx h)
  have HR : Hid (SolRet c R b (.returned (.tuple #[.agg #[.int .i64 0, .int .i64 0], .slice none 0 0, .slice none 0 0, .iface 49 (.int .i64 (chk37 c R b))])) w → SolRet c R b (.returned (.tuple #[.agg #[.int .i64 0, .int .i64 0], .slice none 0 0, .slice none 0 0, .iface 49 (.int .i64 (chk37 c R b))])) w) := Lib.hid id
  have HN := Lib.hid h0
  obtain ⟨cd, hcd⟩ : ∃ cd, cd = chk37 c R b := ⟨_, rfl⟩
  have Hcd := Lib.hid hcd
  rw [← hcd] at KC2
  clear hcd h0 hc hR hb HV KC HR
  go_enter Tryz.func72, Tryz.ntmps72
  go_wp2_with fail
  refine (KC2.out _ (by exact bel)).mono ?_
  rintro e w3 ⟨rfl, hb3⟩
  have a0 := (hb3.cell (p := ⟨w.heap.size, 0, none⟩) (by simp)).trans (show _ = some (.int .i64 0) by simp)
  have a1 := (hb3.cell (p := ⟨w.heap.size, 1, none⟩) (by simp)).trans (show _ = some (.int .i64 0) by simp)
  have f0 := (hb3.frozen (p := ⟨w.heap.size, 0, none⟩) (by simp)).trans (show _ = false by simp)
  have f1 := (hb3.frozen (p := ⟨w.heap.size, 1, none⟩) (by simp)).trans (show _ = false by simp)
  have hbw : Below w.heap.size w w3 := ((Below.refl _ _).alloc (Nat.le_refl _) _).trans (hb3.mono (by simp))
  have z3 : w.heap.size < w3.heap.size := by have := hb3.size; simp at this; omega
  clear hb3
  go_wp2
  refine bodyPost_ret (v := .tuple #[.agg #[.int .i64 0, .int .i64 0], .slice none 0 0, .slice none 0 0, .iface 49 (.int .i64 cd)]) (by simp [results, Tryz.results72, go_sem, ↓IntWalk.iteOmega, *]) rfl ⟨.inl ⟨HN.out, by rw [← Hcd.out]; rfl⟩, ?_⟩
  exact bel
 case pos =>
  have HV := Lib.hid errV_0
  have KC2 := Lib.hid (fun wx h => (by have := KC.out wx h; rw [h0, errV_0] at this; exact this : Calls Tryz.prog 95 #[.slice Ac c.length cc, .slice AR R.length cR, .slice Ab b.length cb] wx fun e w' => e = .returned .nilIface ∧ Below wx.heap.size wx w'))
  have KB := Lib.hid (fun wx (h : Below w.heap.size w wx) => begin_any c R b Ac AR Ab cc cR cb wx (factsAt_up hc h) (hR.up h) (factsAt_up hb h) h0)
  have hbd := chk_zero h0
  have n24 := hbd.1
  have m24 := hbd.2.1
  have HS0 := Lib.hid (t37_sml h0)
  have HT0 := Lib.hid (t37_tab h0)
  have H0 := Lib.hid h0
  clear hbd h0 hc hR hb KC HV
  go_enter Tryz.func72, Tryz.ntmps72
  go_wp2_with fail
  refine (KC2.out _ (by exact bel)).mono ?_
  rintro e w3 ⟨rfl, hb3⟩
  have hv3 : Own2 w3 w.heap.size 0 0 := (Own2.new (T := 45)).up hb3
  have hbw : Below w.heap.size w w3 := ((Below.refl _ _).alloc (Nat.le_refl _) _).trans (hb3.mono (by simp))
  have z3 := hbw.size
  clear hb3
  go_wp2_with fail
  refine (KB.out _ hbw).mono ?_
  rintro e w4 ⟨⟨X, L, rfl, hG, hT⟩, hb4⟩
  have hT' : TbM w4 X R.length c.length (c.length + R.length) L (T37 c R b) := hT
  have HG := Lib.hid hG
  have hv4 := hv3.up hb4
  have hbw4 := hbw.trans (hb4.mono z3)
  have lt3 := hv3.lt
  have le34 := hb4.size
  have lX := hG.lX
  obtain ⟨B, hB⟩ : ∃ B, B = w3.heap.size := ⟨_, rfl⟩
  rw [← hB] at HG lt3 le34 lX
  obtain ⟨V, hV⟩ : ∃ V, V = w.heap.size := ⟨_, rfl⟩
  rw [← hV] at lt3 hv4 ⊢
  have Hle := Lib.hid (show w.heap.size ≤ V by omega)
  clear hT hG hB hb4 hv3 z3 hbw hV
  obtain ⟨m, hm⟩ : ∃ m, m = R.length := ⟨_, rfl⟩
  obtain ⟨n, hn⟩ : ∃ n, n = c.length := ⟨_, rfl⟩
  obtain ⟨T0, hT0⟩ : ∃ T0, T0 = T37 c R b := ⟨_, rfl⟩
  rw [← hm, ← hn, ← hT0] at hT' HS0 HT0
  rw [← hm, ← hn] at HG
  have HE := Lib.hid (show ∀ (cd : Int) e w', Fin m (n + m) T0 (.err cd) → SolErr cd e → SolRet c R b e w' from fun cd e w' h1 h2 => .inr ⟨H0.out, .inl ⟨cd, by rw [← hm, ← hn, ← hT0]; exact h1, h2⟩⟩)
  have HO := Lib.hid (show ∀ T e w', Fin m (n + m) T0 (.ok T) → SolOk n m T e w' → SolRet c R b e w' from fun T e w' h1 h2 => .inr ⟨H0.out, .inr ⟨T, by rw [← hm, ← hn, ← hT0]; exact h1, by rw [← hm, ← hn]; exact h2⟩⟩)
  have hn24 : n ≤ 24 := by omega
  have hm24 : m ≤ 24 := by omega
  clear hm hn hT0
  obtain ⟨N, hN⟩ : ∃ N, N = n + m := ⟨_, rfl⟩
  rw [← hN] at hT' HS0 HT0 HG HE HO
  have HN := Lib.hid hN
  have hN48 : N ≤ 48 := by omega
  clear hN
  obtain ⟨P, hP⟩ : ∃ P, P = 2 ^ N := ⟨_, rfl⟩
  have HP := Lib.hid (show ∀ q T, Rn m N T0 q T → q < P from fun q T h => by rw [hP]; exact rn_short HT0.out h)
  clear hP KC2 KB
  go_wp2
  go_loopg [12] (P) (fun gg v wr => ∃ (q : Nat) (T : TB), gg + q = P ∧ Hid (Rn m N T0 q T) ∧ Hid (TbM wr X m n N L T) ∧ Own2 wr V 0 0 ∧ Below w.heap.size w wr)
  case atStart => exact ⟨0, T0, rfl, Lib.hid .zero, Lib.hid hT', hv4, hbw4⟩
  case round =>
   clear hv4 hbw4 hT'
   obtain ⟨q, T, hgq, hrn, hT, hv, hbel⟩ := hrel
   have hz := hbel.size
   obtain ⟨u0, u1, u2, u3, u4⟩ := id hv
   have Hgq := Lib.hid hgq
   clear hgq
   have hsm := Lib.hid (rn_sml HS0.out hrn.out)
   have c5 := hT.out.c5
   have cX := hT.out.lt
   have KI := Lib.hid (idxpos_any T.c N L.A5 L.c5 wr (goal_rt HG.out hT.out))
   go_wp2_with fail
   refine KI.out.mono ?_
   rintro e w5 ⟨⟨i, rfl, hix⟩, hb5⟩
   have hbel5 := hbel.trans (hb5.mono hz)
   have hT5 := Lib.hid (hT.out.up hb5)
   have hv5 := hv.up hb5
   have z5 := hbel5.size
   clear hv u0 u1 u2 u3 u4 hT c5 cX
   obtain ⟨u0, u1, u2, u3, u4⟩ := id hv5
   rcases hix with ⟨k, rfl, hk, hk1, hk2⟩ | ⟨rfl, hno⟩
   ·have HEnt := Lib.hid (ent_ix hk hk1 hk2)
    have k0 : (0 : Int) ≤ (k : Int) := by omega
    have KL := Lib.hid (leaving_any B X m n N L T k w5 HG.out hT5.out hsm.out hk)
    clear hk1 hk2
    go_wp2_with fail
    refine KL.out.mono ?_
    rintro e w6 ⟨⟨v6, c6, rfl, hl⟩, hb6⟩
    have hbel6 := hbel5.trans (hb6.mono z5)
    have hT6 := Lib.hid (hT5.out.up hb6)
    have hv6 := hv5.up hb6
    have z6 := hbel6.size
    clear u0 u1 u2 u3 u4
    obtain ⟨u0, u1, u2, u3, u4⟩ := id hv6
    rcases hl with ⟨rfl, rfl, hl⟩ | ⟨r, rfl, rfl, hl, hrat⟩ | ⟨rfl, hrat⟩
    ·have HF := Lib.hid (show Fin m N T0 (.err 3) from ⟨q, T, hrn.out, .none HEnt.out hl⟩)
     simp only [errV_0]
     clear hl
     go_wp2
     refine bodyPost_ret (v := .tuple #[.agg #[.int .i64 0, .int .i64 0], .slice none 0 0, .slice none 0 0, .iface 49 (.int .i64 3)]) (by simp [results, Tryz.results72, go_sem, ↓IntWalk.iteOmega, *]) rfl ⟨HE.out _ _ _ HF.out rfl, ?_⟩
     have := Hle.out
     exact bel
    ·obtain ⟨hr, ha, _⟩ := id hl
     have KP := Lib.hid (pivot_any B X m n N L T r k w6 HG.out hT6.out hsm.out hr hk ha (by have := hT6.out.lt; omega))
     have Hl := Lib.hid hl
     have Hrat := Lib.hid hrat
     have r0 : (0 : Int) ≤ (r : Int) := by omega
     simp only [errV_0]
     clear hl hrat ha
     go_wp2_with fail
     refine KP.out.mono ?_
     rintro e w7 ⟨hret, hb7⟩
     have hbel7 := hbel6.trans (hb7.mono (by have := Hle.out; omega))
     have hv7 := hv6.upB hb7 lt3
     have z7 := hbel7.size
     clear u0 u1 u2 u3 u4
     obtain ⟨u0, u1, u2, u3, u4⟩ := id hv7
     rcases hret with ⟨rfl, hok, hT7⟩ | ⟨rfl, hno⟩
     ·have Hrn := Lib.hid (Rn.succ hrn.out HEnt.out Hrat.out Hl.out hok)
      have Hq := HP.out _ _ Hrn.out
      have HT7 := Lib.hid hT7
      clear hok hT7
      go_wp2
      go_roundg (P - (q + 1))
      case measure => have := Hgq.out; omega
      case rel => exact ⟨q + 1, _, by omega, Hrn, HT7, hv7, hbel7⟩
     ·have HF := Lib.hid (show Fin m N T0 (.err 5) from ⟨q, T, hrn.out, .large HEnt.out Hrat.out Hl.out hno⟩)
      clear hno
      go_wp2
      refine bodyPost_ret (v := .tuple #[.agg #[.int .i64 0, .int .i64 0], .slice none 0 0, .slice none 0 0, .iface 49 (.int .i64 5)]) (by simp [results, Tryz.results72, go_sem, ↓IntWalk.iteOmega, *]) rfl ⟨HE.out _ _ _ HF.out rfl, ?_⟩
      have := Hle.out
      exact bel
    ·have HF := Lib.hid (show Fin m N T0 (.err 5) from ⟨q, T, hrn.out, .ratio HEnt.out hrat⟩)
     rw [errV_ne (by decide)]
     clear hrat
     go_wp2
     refine bodyPost_ret (v := .tuple #[.agg #[.int .i64 0, .int .i64 0], .slice none 0 0, .slice none 0 0, .iface 49 (.int .i64 5)]) (by simp [results, Tryz.results72, go_sem, ↓IntWalk.iteOmega, *]) rfl ⟨HE.out _ _ _ HF.out rfl, ?_⟩
     have := Hle.out
     exact bel
   ·have HF := Lib.hid (show Fin m N T0 (.ok T) from ⟨q, T, hrn.out, .done hno⟩)
    have HTab := Lib.hid (rn_tab HT0.out hrn.out)
    have c0 := hT5.out.c0
    have c1 := hT5.out.c1
    have cX := hT5.out.lt
    have hmk1 := make_fr n (by omega)
    have hmk2 := make_fr m (by omega)
    clear hno
    go_upto_region 15 with fail
    go_cut [7, 8] (fun x y wx => ∃ bx bY, x = .slice (some ⟨bx, 0, none⟩) n n ∧ y = .slice (some ⟨bY, 0, none⟩) m m ∧ Hid (bx ≠ bY) ∧ Hid (w5.heap.size ≤ bx) ∧ Hid (w5.heap.size ≤ bY) ∧ Hid (rowGe wx bx 45 (n * 2) (fun _ => .int .i64 0)) ∧ Hid (rowGe wx bY 45 (m * 2) (fun _ => .int .i64 0)) ∧ Below w5.heap.size w5 wx)
    case first =>
     go_wp2_with fail
     refine wp_region_G 11 (fun w' => ∀ b o, w'.cell? ⟨b, o, none⟩ = if b < w5.heap.size then w5.cell? ⟨b, o, none⟩ else hidC w' b o) (by kernel_rfl) (cif (B := w5.heap.size) (W := w5) (Below.refl _ _).drew) ?_
     intro hG0
     refine wpS1 0 hG0 ?_; intro hG1; clear hG0
     refine wpS1 1 hG1 ?_; intro hG2; clear hG1
     refine wpS1 2 hG2 ?_; intro hG3; clear hG2
     refine wpS2 3 hG3 ?_; intro hG4; clear hG3
     refine wpS1 5 hG4 ?_; intro hG5; clear hG4
     refine wpS1 6 hG5 ?_; intro hG6; clear hG5
     refine wpS1 7 hG6 ?_; intro hG7; clear hG6
     refine wpS2 8 hG7 ?_; intro hG8; clear hG7
     refine wpAnyG_ready (rs := [4, 9]) (by kernel_rfl) (by simp) (AllG.cons rfl hG8 (fun K hK => ?_) (AllG.cons rfl hG8 (fun K hK => ?_) AllG.nil))
     (go_simp)
     refine hK.out _ _ (Or.inr (cif (by exact bel))) (fun hG9 => wpN ?_); clear hK hG8
     refine wpS1 10 hG9 ?_; intro hG10; clear hG9
     refine wpAnyG_ready (rs := [9]) (by kernel_rfl) (by simp) (AllG.cons rfl hG10 (fun K hK => ?_) AllG.nil)
     (go_simp)
     refine hK.out _ _ (Or.inr (cif (by exact bel))) (fun hG11 => wpN ?_); clear hK hG10
     refine wpAnyG_ready (rs := [11]) (by kernel_rfl) (by simp) (AllG.cons rfl hG11 (fun K hK => ?_) AllG.nil)
     (go_simp)
     refine hK.out _ _ (Or.inl rfl) (fun hG12 => wpN ?_); clear hK hG11
     refine wpAnyG_done (by kernel_rfl) ?_ _; clear hG12
     rotate_left
     (go_simp)
     refine hK.out _ _ (Or.inr (cif (by exact bel))) (fun hG9 => wpN ?_); clear hK hG8
     refine wpAnyG_ready (rs := [4]) (by kernel_rfl) (by simp) (AllG.cons rfl hG9 (fun K hK => ?_) AllG.nil)
     (go_simp)
     refine hK.out _ _ (Or.inr (cif (by exact bel))) (fun hG10 => wpN ?_); clear hK hG9
     refine wpS1 10 hG10 ?_; intro hG11; clear hG10
     refine wpAnyG_ready (rs := [11]) (by kernel_rfl) (by simp) (AllG.cons rfl hG11 (fun K hK => ?_) AllG.nil)
     (go_simp)
     refine hK.out _ _ (Or.inl rfl) (fun hG12 => wpN ?_); clear hK hG11
     refine wpAnyG_done (by kernel_rfl) ?_ _; clear hG12
     rotate_left
     all_goals (go_wp2; go_meet)
     all_goals first | exact ⟨w5.heap.size, w5.heap.size + 1, rfl, rfl, Lib.hid (by omega), Lib.hid (Nat.le_refl _), Lib.hid (Nat.le_succ _), Lib.hid (((zrow_row w5 n).alloc _).up (Below.refl _ _).drew), Lib.hid ((zrow_row2 w5 _ m).up (Below.refl _ _).drew), by exact bel⟩ | exact ⟨w5.heap.size + 1, w5.heap.size, rfl, rfl, Lib.hid (by omega), Lib.hid (Nat.le_succ _), Lib.hid (Nat.le_refl _), Lib.hid ((zrow_row2 w5 _ n).up (Below.refl _ _).drew), Lib.hid (((zrow_row w5 m).alloc _).up (Below.refl _ _).drew), by exact bel⟩
    case rest =>
     obtain ⟨bx, bY, rfl, rfl, hne, hx5, hy5, hrx, hry, hbc⟩ := hcut
     clear c0 c1 cX hmk1 hmk2 u0 u1 u2 u3 u4
     have hlx := hrx.out.lt
     have hly := hry.out.lt
     have zc := hbc.size
     have KZ := Lib.hid zero_any
     go_wp2
     go_loopw [74] (fun i wr => ∃ k : Nat, k ≤ n ∧ i = .int .i64 k ∧ Hid (rowGe wr bx 45 (n * 2) (prg k fun _ => 0)) ∧ Kw bx (bx + 1) wc wr) (fun i _ => n - (intOf i).toNat)
     case atStart => exact ⟨0, by omega, rfl, Lib.hid (prg_start hrx.out), Kw.refl _ _ _⟩
     case round =>
      obtain ⟨k, hk, rfl, hrow, hkw⟩ := hrel
      have z1 := hkw.size
      by_cases hlt : k < n
      ·have k0 : (0 : Int) ≤ (k : Int) := by omega
       have k1 : (k : Int) < (n : Int) := by omega
       go_wp2_with fail
       refine (KZ.out _).mono ?_
       rintro e w6 ⟨rfl, hb6⟩
       have hrow6 := rowGe.up hrow.out hb6
       have Hr6 := Lib.hid hrow6
       obtain ⟨r0, r1⟩ := prg_cell hrow6 hlt
       have r2 := rowGe.frozen hrow6 (k * 2)
       have r3 := rowGe.frozen hrow6 (k * 2 + 1)
       have r4 := rowGe.lt hrow6
       have K6 := Lib.hid (hkw.up hb6)
       clear hrow6
       go_wp2
       go_roundw
       case rel => exact ⟨k + 1, by omega, by go_num, Lib.hid (prg_step Hr6.out rfl rfl), (K6.out.set (p := ⟨bx, k * 2, none⟩) (Nat.le_refl _) (Nat.lt_succ_self _) _).set (p := ⟨bx, k * 2 + 1, none⟩) (Nat.le_refl _) (Nat.lt_succ_self _) _⟩
       case measure => simp [intOf]; omega
      ·obtain rfl : n = k := by omega
       obtain ⟨wt, hwt⟩ : ∃ wt : World, wt = wr := ⟨_, rfl⟩
       rw [← hwt] at hrow hkw z1 ⊢
       clear hwt
       have hx0 := Lib.hid (prg_end hrow.out)
       have HBc := Lib.hid (fun wx (h : Kw bx (bx + 1) wc wx) => hbc.trans (h.below (B := w5.heap.size) hx5.out zc))
       have hT4 := hT5.out.up (HBc.out _ hkw)
       have c4 := hT4.c4
       have cX := hT4.lt
       clear hrow hT4
       go_wp2
       clear c4 cX
       go_loopw [87] (fun i wr => ∃ k : Nat, k ≤ m ∧ i = .int .i64 k ∧ Hid (FrRow wr bx n (xK T k)) ∧ Kw bx (bx + 1) wc wr) (fun i _ => m - (intOf i).toNat)
       case atStart => exact ⟨0, by omega, rfl, Lib.hid (hx0.out.congr fun j _ => rfl), hkw⟩
       case round =>
        clear hkw z1 hx0
        obtain ⟨k, hk, rfl, hrow, hkw⟩ := hrel
        have z1 := hkw.size
        have hT4 := Lib.hid (hT5.out.up (HBc.out _ hkw))
        by_cases hlt : k < m
        ·have hm0 : 0 < m := by omega
         have e4 := HG.out.e4 hm0
         have e3 := HG.out.e3 hm0
         have c0 := hT4.out.c0
         have c3 := hT4.out.c3
         have cX := hT4.out.lt
         rw [e3] at c3
         rw [e4]
         have a4 := (hT4.out.basic hm0).cell hlt
         have l4 := (hT4.out.basic hm0).lt
         have a0 := (hT4.out.right hm0).num hlt
         have a1 := (hT4.out.right hm0).den hlt
         have l3 := (hT4.out.right hm0).lt
         have k0 : (0 : Int) ≤ (k : Int) := by omega
         have k1 : (k : Int) < (m : Int) := by omega
         have hs := Lib.hid (xK_set (n := n) HTab.out hlt)
         have hsk := Lib.hid (fun j => xK_skip (T := T) (k := k) (j := j))
         obtain ⟨Bk, hBk⟩ : ∃ Bk, Bk = T.B k := ⟨_, rfl⟩
         rw [← hBk] at a4 hs hsk
         have b0 : (0 : Int) ≤ (Bk : Int) := by omega
         clear hBk
         by_cases hB : Bk < n
         ·have b1 : (Bk : Int) < (n : Int) := by omega
          have r0 := hrow.out.num hB
          have r1 := hrow.out.den hB
          have r2 := hrow.out.frozen (Bk * 2)
          have r3 := hrow.out.frozen (Bk * 2 + 1)
          have r4 := hrow.out.lt
          go_wp2
          go_roundw
          case rel => exact ⟨k + 1, by omega, by go_num, Lib.hid ((hrow.out.set Bk (T.b k)).congr hs.out), (hkw.set (p := ⟨bx, Bk * 2, none⟩) (Nat.le_refl _) (Nat.lt_succ_self _) _).set (p := ⟨bx, Bk * 2 + 1, none⟩) (Nat.le_refl _) (Nat.lt_succ_self _) _⟩
          case measure => simp [intOf]; omega
         ·have b1 : ¬ (Bk : Int) < (n : Int) := by omega
          have Hs := Lib.hid (show FrRow wr bx n (xK T (k + 1)) from hrow.out.congr fun j hj => ((hsk.out j) (by omega)).symm)
          go_wp2
          go_roundw
          case rel => exact ⟨k + 1, by omega, by go_num, Hs, hkw⟩
          case measure => simp [intOf]; omega
        ·obtain rfl : m = k := by omega
         have hX := Lib.hid (show FrRow wr bx n (xB m T) from hrow.out)
         obtain ⟨wd, hwd⟩ : ∃ wd : World, wd = wr := ⟨_, rfl⟩
         rw [← hwd] at hrow hkw z1 hT4 hX ⊢
         clear hwd hrow
         have hY0 := Lib.hid (prg_start (f := fun i => -T.c (n + i)) (hkw.row hry.out (by have := hne.out; omega)))
         have HBd := Lib.hid (fun wx (h : Kw bY (bY + 1) wd wx) => (HBc.out _ hkw).trans (h.below (B := w5.heap.size) hy5.out (by omega)))
         clear hT4
         go_wp2
         go_loopw [111] (fun i wr => ∃ k : Nat, k ≤ m ∧ i = .int .i64 k ∧ Hid (rowGe wr bY 45 (m * 2) (prg k fun i => -T.c (n + i))) ∧ Kw bY (bY + 1) wd wr) (fun i _ => m - (intOf i).toNat)
         case atStart => exact ⟨0, by omega, rfl, hY0, Kw.refl _ _ _⟩
         case round =>
          clear hkw z1 hY0
          obtain ⟨k, hk, rfl, hrow, hkw⟩ := hrel
          obtain ⟨wt2, hwt2⟩ : ∃ wt2 : World, wt2 = wr := ⟨_, rfl⟩
          rw [← hwt2] at hrow hkw ⊢
          clear hwt2
          have z1 := hkw.size
          have hT4 := Lib.hid (hT5.out.up (HBd.out _ hkw))
          by_cases hlt : k < m
          ·have hN0 : 0 < N := by have := HN.out; omega
           have hnk : n + k < N := by have := HN.out; omega
           have e5 := HG.out.e5 hN0
           have c0 := hT4.out.c0
           have c5 := hT4.out.c5
           have cX := hT4.out.lt
           rw [e5] at c5
           have a0 := (hT4.out.goal hN0).num hnk
           have a1 := (hT4.out.goal hN0).den hnk
           have l5 := (hT4.out.goal hN0).lt
           have k0 : (0 : Int) ≤ (k : Int) := by omega
           have k1 : (k : Int) < (m : Int) := by omega
           have j0 : (0 : Int) ≤ (n : Int) := by omega
           have j1 : (n : Int) + (k : Int) < (N : Int) := by omega
           have j2 : IntKind.i64.wrap ((n : Int) + (k : Int)) = ((n + k : Nat) : Int) := by rw [Int.natCast_add]; exact IntWalk.i64_in _ (by omega)
           have j3 : ((n + k : Nat) : Int) < (N : Int) := by omega
           obtain ⟨ci, hci⟩ : ∃ ci, ci = n + k := ⟨_, rfl⟩
           rw [← hci] at a0 a1 j2 j3
           have j4 : (0 : Int) ≤ (ci : Int) := by omega
           obtain ⟨γ, hγ⟩ : ∃ γ, γ = T.c ci := ⟨_, rfl⟩
           rw [← hγ] at a0 a1
           have hrep : Rep γ := by rw [hγ, hci]; exact hsm.out.c _ hnk
           have hg1 : IntKind.i64.wrap (-γ.num) = -γ.num := IntWalk.i64_in _ (by have := hrep.1; unfold aI at this; omega)
           have Hγ := Lib.hid (show γ = T.c (n + k) by rw [hγ, hci])
           clear hγ hci hrep
           obtain ⟨r0, r1⟩ := prg_cell hrow.out hlt
           have r2 := rowGe.frozen hrow.out (k * 2)
           have r3 := rowGe.frozen hrow.out (k * 2 + 1)
           have r4 := rowGe.lt hrow.out
           go_wp2_with fail
           refine wp_region_G 13 (fun w' => ∀ b o, w'.cell? ⟨b, o, none⟩ = if b < wt2.heap.size then wt2.cell? ⟨b, o, none⟩ else hidC w' b o) (by kernel_rfl) (cif (B := wt2.heap.size) (W := wt2) (Below.refl _ _).drew) ?_
           intro hG0
           refine wpS1 0 hG0 ?_; intro hG1; clear hG0
           refine wpS1 1 hG1 ?_; intro hG2; clear hG1
           refine wpS1 2 hG2 ?_; intro hG3; clear hG2
           refine wpS2 3 hG3 ?_; intro hG4; clear hG3
           refine wpS1 4 hG4 ?_; intro hG5; clear hG4
           refine wpS1 5 hG5 ?_; intro hG6; clear hG5
           refine wpS1 6 hG6 ?_; intro hG7; clear hG6
           refine wpS2 7 hG7 ?_; intro hG8; clear hG7
           refine wpS1 8 hG8 ?_; intro hG9; clear hG8
           refine wpS1 9 hG9 ?_; intro hG10; clear hG9
           refine wpS1 10 hG10 ?_; intro hG11; clear hG10
           refine wpS2 11 hG11 ?_; intro hG12; clear hG11
           refine wpAnyG_ready (rs := [12]) (by kernel_rfl) (by simp) (AllG.cons rfl hG12 (fun K hK => ?_) AllG.nil)
           (go_simp)
           refine hK.out _ _ (Or.inr (cif (by exact bel))) (fun hG13 => wpN ?_); clear hK hG12
           refine wpAnyG_ready (rs := [13]) (by kernel_rfl) (by simp) (AllG.cons rfl hG13 (fun K hK => ?_) AllG.nil)
           (go_simp)
           refine hK.out _ _ (Or.inl rfl) (fun hG14 => wpN ?_); clear hK hG13
           refine wpAnyG_done (by kernel_rfl) ?_ _; clear hG14
           go_wp2
           go_roundw
           case rel => exact ⟨k + 1, by omega, by go_num, Lib.hid (rowGe.up (prg_step hrow.out (by rw [← Hγ.out, Rat.neg_num]) (by rw [← Hγ.out, Rat.neg_den])) ((Below.refl _ _).alloc (Nat.le_refl _) _).drew), (((hkw.set (p := ⟨bY, k * 2, none⟩) (Nat.le_refl _) (Nat.lt_succ_self _) _).set (p := ⟨bY, k * 2 + 1, none⟩) (Nat.le_refl _) (Nat.lt_succ_self _) _).alloc _).drew⟩
           case measure => simp [intOf]; omega
          ·obtain rfl : m = k := by omega
           have hYE := Lib.hid (prg_end hrow.out)
           have hXE := Lib.hid (hkw.row hX.out (by have := hne.out; omega))
           have hb5E := HBd.out _ hkw
           have hv9 := hv5.up hb5E
           have hbelE := hbel5.trans (hb5E.mono z5)
           have c6 := hT4.out.c6
           have c7 := hT4.out.c7
           have cX := hT4.out.lt
           obtain ⟨u0, u1, u2, u3, u4⟩ := id hv9
           have nx : bx ≠ V := by have := hx5.out; have := hv5.lt; omega
           have nY : bY ≠ V := by have := hy5.out; have := hv5.lt; omega
           clear hrow
           go_wp2
           refine bodyPost_ret (v := .tuple #[.agg #[.int .i64 T.z.num, .int .i64 T.z.den], .slice (some ⟨bx, 0, none⟩) n n, .slice (some ⟨bY, 0, none⟩) m m, .nilIface]) (by simp [results, Tryz.results72, go_sem, ↓IntWalk.iteOmega, *]) rfl ⟨HO.out _ _ _ HF.out ⟨bx, bY, rfl, ?_, ?_⟩, ?_⟩
           ·exact fr_far hXE.out nx
           ·exact fr_far hYE.out nY
           ·have := Hle.out
            exact bel

end Go.Proofs.YtaampjhdgeoicaaGreat

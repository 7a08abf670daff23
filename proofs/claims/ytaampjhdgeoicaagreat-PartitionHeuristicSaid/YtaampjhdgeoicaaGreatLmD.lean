/- landmark: reached. -/
import Derived.Test.YtaampjhdgeoicaaGreatMfA
import Derived.Test.YtaampjhdgeoicaaGreatLmC
import Derived.Test.YtaampjhdgeoicaaGreatMtF
import Derived.Test.YtaampjhdgeoicaaGreatMtA
import Derived.LoopTactic
import Derived.Deep.LoopGhost
import Derived.Deep.RegionHeld3
namespace Go.Proofs.YtaampjhdgeoicaaGreat
set_option linter.unusedSimpArgs false
set_option linter.unusedVariables false
open Go Go.RowKit
set_option linter.unusedVariables false

theorem undFs : Tryz.prog.underlying 118 = some (.slice 137) := by kernel_rfl
/-- A store into a row of a table that is being made. -/
theorem MkM.put {wr : World} {g n r : Nat} {rb L : Nat → Nat} {M : Nat → Nat → Bool} (h : MkM wr g n r rb L M) {v u : Nat} (hv : v < r) (hi : ∀ i j, rb i = rb j → i = j) (hg : ∀ j, rb j ≠ g) : MkM (wr.setCell ⟨rb v, u, none⟩ (.bool true)) g n r rb L (put2 M v u) :=
 ⟨h.top.setOther (fun e => hg v e.symm) _, fun j hj => by
  by_cases e : j = v
  ·subst e
   exact ((h.row j hj).set u _).congr fun c hc => by unfold put2; by_cases e : c = u <;> simp [e]
  ·refine ((h.row j hj).setOther (fun e2 => e (hi j v e2)) _).congr fun c hc => ?_
   unfold put2
   have : (j == v) = false := by simp; omega
   rw [this]; simp⟩
theorem MkM.congr {wr : World} {g n r : Nat} {rb L : Nat → Nat} {M M' : Nat → Nat → Bool} (h : MkM wr g n r rb L M) (e : ∀ j, j < r → ∀ c, M j c = M' j c) : MkM wr g n r rb L M' :=
 ⟨h.top, fun j hj => (h.row j hj).congr fun c _ => by rw [e j hj c]⟩
theorem MkM.drew {wr : World} {g n r : Nat} {rb L : Nat → Nat} {M : Nat → Nat → Bool} (h : MkM wr g n r rb L M) : MkM wr.drew g n r rb L M := ⟨h.top, h.row⟩
/-- The first k rows have their state's mark. -/
def stM (s : List Int) (k v x : Nat) : Bool := decide (v < k) && x == (nth s v).toNat
theorem stM_put {s : List Int} {k : Nat} : ∀ j, j < k + 1 → ∀ c, put2 (stM s k) k (nth s k).toNat j c = stM s (k + 1) j c := fun j hj c => by
 unfold put2 stM
 by_cases e : j = k
 ·subst e; simp
 ·have h1 : (j == k) = false := by simp; omega
  have h2 : decide (j < k) = decide (j < k + 1) := by rw [decide_eq_decide]; omega
  rw [h1, h2]; simp
def ReaRet (t : Tsk) (s : List Int) (a : Int × Int) (w : World) (e : Ending) (w' : World) : Prop :=
 ∃ g rb, e = .returned (.slice (some ⟨g, 0, none⟩) t.vars.length t.vars.length) ∧ MatIs w' g t.vars.length rb (Ld t) (rcB t s a)

/-- .. and the table lies in new blocks. -/
def ReaRet2 (t : Tsk) (s : List Int) (a : Int × Int) (w : World) (e : Ending) (w' : World) : Prop :=
 ∃ g rb, e = .returned (.slice (some ⟨g, 0, none⟩) t.vars.length t.vars.length) ∧ MatIs w' g t.vars.length rb (Ld t) (rcB t s a) ∧ w.heap.size ≤ g ∧ ∀ j, w.heap.size ≤ rb j

set_option maxRecDepth 100000 in
set_option maxHeartbeats 16000000 in
theorem reached_any2 (t : Tsk) (q : LiesF) (G : Nat) (s : List Int) (AS : Option Addr) (cs : Nat) (a : Int × Int) (w : World) (hF : FindAt w G t q) (hs : IntsAt w w.heap.size AS s) (hst : stB t.vars s = true) (hr : Right t) :
  Calls Tryz.prog 64 #[.pointer (some ⟨G, 0, none⟩), .slice AS s.length cs, .agg #[.int .i64 a.1, .int .i64 a.2]] w fun e w' => ReaRet2 t s a w e w' ∧ Below w.heap.size w w' := by
 have n64 := hr.nv
 have HR := Lib.hid hr
 have Hst := Lib.hid (show StP t.vars s by unfold stB at hst; simpa using hst)
 have hul := usN_len (t := t) (fun k hk => hr.ne k hk) t.ops.length (Nat.le_refl _)
 have hul2 : (us t).length ≤ 262144 := by have := hr.no; have h := hul; show (usN t t.ops.length).length ≤ _; omega
 clear hr hst hul
 obtain ⟨av, ag, ac, au, cv, cg, cc, cu⟩ := q
 obtain ⟨q0, q1, q2, q3, q4, q5, q6, q7, q8⟩ := hF
 dsimp only at q1 q2 q3 q4 q5 q6 q7 q8
 have HU := Lib.hid q8
 have hmk1 := run_make_row' (P := Tryz.prog) 118 137 (.slice none 0 0) 24 undFs infoBs rfl .i64 .i64 t.vars.length (by omega) (by omega)
 obtain ⟨rb, hrb⟩ : ∃ rb : Nat → Nat, ∀ j, rb j = w.heap.size + 2 + j := ⟨_, fun _ => rfl⟩
 have Hrb := Lib.hid hrb
 have Hsn : Hid (s.length = t.vars.length) := Lib.hid Hst.out.1
 clear hrb q8
 go_enter Tryz.func64, Tryz.ntmps64
 go_wp2
 clear hmk1
 go_loopw [24] (fun i wr => ∃ (k : Nat), k ≤ t.vars.length ∧ i = .int .i64 k ∧ MkM wr (w.heap.size + 1) t.vars.length k rb (Ld t) (stM s k) ∧ Hid (wr.heap.size = w.heap.size + 2 + k) ∧ wr.cell? ⟨w.heap.size, 0, none⟩ = some (.int .i64 a.1) ∧ wr.cell? ⟨w.heap.size, 1, none⟩ = some (.int .i64 a.2) ∧ Below w.heap.size w wr) (fun i _ => t.vars.length - (intOf i).toNat)
 case atStart => exact ⟨0, by omega, rfl, by simpa using MkM.start (w.alloc (.cells #[.int .i64 a.1, .int .i64 a.2] 75)) t.vars.length rb (Ld t) (stM s 0), Lib.hid (by simp), by simp, by simp, by exact bel⟩
 case round =>
  obtain ⟨k, hk, rfl, hmk, hsz, ha0, ha1, hbel⟩ := hrel
  have hbz := hbel.size
  by_cases hlt : k < t.vars.length
  ·obtain ⟨b1, o1, ea, hb1, hc1⟩ := q5.at_ hlt
   subst ea
   have d1 := (hbel.cell (p := ⟨b1, o1 + k, none⟩) hb1).trans (hc1 k hlt)
   obtain ⟨b2, o2, eb, hb2, hc2⟩ := hs.at_ (show k < s.length by have := Hsn.out; omega)
   subst eb
   have d2 := (hbel.cell (p := ⟨b2, o2 + k, none⟩) hb2).trans (hc2 k (by have := Hsn.out; omega))
   have hd := HR.out.dom k hlt
   obtain ⟨m, hm⟩ : ∃ m : Nat, nth t.vars k = (m : Int) := ⟨(nth t.vars k).toNat, by omega⟩
   have hsk := Hst.out.2 k (by have := Hsn.out; omega)
   obtain ⟨x, hx⟩ : ∃ x : Nat, nth s k = (x : Int) := ⟨(nth s k).toNat, by omega⟩
   have hLk : Ld t k = m := by unfold Ld; rw [hm]; simp
   have hxk : (nth s k).toNat = x := by rw [hx]; simp
   have hmk2 := run_make_row' (P := Tryz.prog) 137 4 (.bool false) 1 undB infoB rfl .i64 .i64 m (by omega) (by omega)
   rw [hm] at d1 hsk hd
   rw [hx] at d2 hsk
   have hxm : x < m := by omega
   have Hxk := Lib.hid hxk
   clear hc1 hc2 hm hx hxk
   have hnx := hmk.next hlt (by rw [Hrb.out, hsz.out]) (fun j hj => by rw [Hrb.out]; omega) (fun c _ => by unfold stM; simp)
   rw [hLk] at hnx
   have hput := hnx.put (v := k) (u := x) (Nat.lt_succ_self _) (fun i j e => by rw [Hrb.out, Hrb.out] at e; omega) (fun j => by rw [Hrb.out]; omega)
   have hrk : rb k = wr.heap.size := by rw [Hrb.out, hsz.out]
   have t4 : wr.cell? ⟨w.heap.size + 1, k, none⟩ = some (.slice none 0 0) := by have := hmk.top.cell hlt; simpa using this
   have t5 := hmk.top.frozen k
   have t6 := hmk.top.lt
   have u1 := hnx.top.cell hlt
   rw [if_pos (Nat.lt_succ_self _), hLk, hrk] at u1
   have u2 := (hnx.row k (Nat.lt_succ_self _)).cell (show x < Ld t k by omega)
   have u3 := (hnx.row k (Nat.lt_succ_self _)).frozen x
   rw [hrk] at u2 u3 hput
   have Hput := Lib.hid (hput.congr (M' := stM s (k + 1)) fun j hj c => by rw [← Hxk.out]; exact stM_put j hj c)
   have k0 : (0 : Int) ≤ (k : Int) := by omega
   have k1 : (k : Int) < (t.vars.length : Int) := by omega
   have k2 : (k : Int) < (s.length : Int) := by have := Hsn.out; omega
   have x0 : (0 : Int) ≤ (x : Int) := by omega
   have x1 : (x : Int) < (m : Int) := by omega
   have hbel6 : Below w.heap.size w ((wr.setCell ⟨w.heap.size + 1, k, none⟩ (.slice (some ⟨wr.heap.size, 0, none⟩) m m)).alloc (.cells (madeCells #[.bool false] m) 4)) := (hbel.setCell (p := ⟨w.heap.size + 1, k, none⟩) (Nat.le_succ _) _).alloc (by simp [World.setCell]; omega) _
   have d3 := (hbel6.cell (p := ⟨b2, o2 + k, none⟩) hb2).trans ((hbel.cell (p := ⟨b2, o2 + k, none⟩) hb2).symm.trans d2)
   have Kq := fun o => ((Kp.set (Kp.refl (w.heap.size + 1) (w.heap.size + 2) wr) (p := ⟨w.heap.size + 1, k, none⟩) (Nat.le_refl _) (Nat.lt_succ_self _) (.slice (some ⟨wr.heap.size, 0, none⟩) m m)).alloc o).drew
   have Bq := fun o => ((hbel.setCell (p := ⟨w.heap.size + 1, k, none⟩) (Nat.le_succ _) (.slice (some ⟨wr.heap.size, 0, none⟩) m m)).alloc (by simp [World.setCell]; omega) o).drew
   have hw7 : ((wr.setCell ⟨w.heap.size + 1, k, none⟩ (.slice (some ⟨wr.heap.size, 0, none⟩) m m)).alloc (.cells (madeCells #[.bool false] m) 4)).setCell ⟨wr.heap.size, x, none⟩ (.bool true) = (wr.setCell ⟨w.heap.size + 1, k, none⟩ (.slice (some ⟨wr.heap.size, 0, none⟩) m m)).alloc (.cells ((madeCells #[.bool false] m).setIfInBounds x (.bool true)) 4) := World.setCell_alloc_at _ _ _ _ _ (by simp [World.setCell])
   have Hput7 := Lib.hid (hw7 ▸ Hput.out)
   clear hw7 Hput
   have hsz6 : ((wr.setCell ⟨w.heap.size + 1, k, none⟩ (.slice (some ⟨wr.heap.size, 0, none⟩) m m)).alloc (.cells (madeCells #[.bool false] m) 4)).heap.size = wr.heap.size + 1 := by simp [World.setCell]
   clear hnx hput hmk
   go_wp2_with fail
   refine wp_region_G 9 (fun w' => w'.cell? ⟨w.heap.size + 1, k, none⟩ = some (.slice (some ⟨wr.heap.size, 0, none⟩) m m) ∧ w'.cell? ⟨b2, o2 + k, none⟩ = some (.int .i64 (x : Int))) (by kernel_rfl) (⟨u1, d3.trans (by first | exact d2 | rfl)⟩) ?_
   intro hG0
   refine wpS1 0 hG0 ?_; intro hG1; clear hG0
   refine wpS1 1 hG1 ?_; intro hG2; clear hG1
   refine wpS1 2 hG2 ?_; intro hG3; clear hG2
   refine wpS2 3 hG3 ?_; intro hG4; clear hG3
   refine wpS1 4 hG4 ?_; intro hG5; clear hG4
   refine wpS1 5 hG5 ?_; intro hG6; clear hG5
   refine wpS1 6 hG6 ?_; intro hG7; clear hG6
   refine wpS2 7 hG7 ?_; intro hG8; clear hG7
   refine wpS1 8 hG8 ?_; intro hG9; clear hG8
   refine wpAnyG_ready (rs := [9]) (by kernel_rfl) (by simp) (AllG.cons rfl hG9 (fun K hK => ?_) AllG.nil)
   (go_simp)
   refine hK.out _ _ (Or.inl rfl) (fun hG10 => wpN ?_); clear hK hG9
   refine wpAnyG_done (by kernel_rfl) ?_ _; clear hG10
   go_wp2
   go_roundw
   case rel => exact ⟨k + 1, by omega, by go_num, Hput7.out.drew, Lib.hid (by have := hsz.out; show (World.alloc _ _).heap.size = _; simp [World.setCell]; omega), ((Kq _).cell (p := ⟨w.heap.size, 0, none⟩) (by show w.heap.size < _; omega) (.inl (by show w.heap.size < _; omega))).trans ha0, ((Kq _).cell (p := ⟨w.heap.size, 1, none⟩) (by show w.heap.size < _; omega) (.inl (by show w.heap.size < _; omega))).trans ha1, Bq _⟩
   case measure => simp [intOf]; omega
  ·obtain rfl : k = t.vars.length := by omega
   have hmat := (hmk.done (fun i j _ _ e => by rw [Hrb.out, Hrb.out] at e; omega) (fun j _ => by rw [Hrb.out]; omega)).congr (M' := fun v x => x == (nth s v).toNat) fun j hj c _ => by unfold stM; simp [hj]
   have hrc : RcI t s a (fun v x => x == (nth s v).toNat) := rc_start
   obtain ⟨M0, hM0⟩ : ∃ M0 : Nat → Nat → Bool, M0 = fun v x => x == (nth s v).toNat := ⟨_, rfl⟩
   rw [← hM0] at hmat hrc
   obtain ⟨wa, rfl⟩ : ∃ wa : World, wa = wr := ⟨_, rfl⟩
   have Hrc := Lib.hid hrc
   have hhi : w.heap.size + 2 + t.vars.length ≤ wa.heap.size := by rw [hsz.out]; exact Nat.le_refl _
   obtain ⟨L, hL⟩ : ∃ L, L = us t := ⟨_, rfl⟩
   rw [← hL] at HU q4 hul2
   have HL := Lib.hid hL
   clear hmk hlt hk hM0 hrc hL
   go_wp2
   go_loopg [10] (2 * cnt2 M0 (Ld t) t.vars.length + 1) (fun gg c wr => ∃ (M : Nat → Nat → Bool) (ch : Bool), gg = 2 * cnt2 M (Ld t) t.vars.length + (if ch then 1 else 0) ∧ c = .bool ch ∧ MatIs wr (w.heap.size + 1) t.vars.length rb (Ld t) M ∧ Hid (RcI t s a M) ∧ Hid (ch = false → ∀ i, i < L.length → ((un L i).var, (un L i).val) ≠ a → hsM (un L i).needs M = true → M (un L i).var.toNat (un L i).val.toNat = true) ∧ Kp (w.heap.size + 2) (w.heap.size + 2 + t.vars.length) wa wr)
   case atStart => exact ⟨M0, true, rfl, rfl, hmat, Hrc, Lib.hid (fun h => by cases h), Kp.refl _ _ _⟩
   case round =>
    clear hmat Hrc
    obtain ⟨M, ch, hgk, rfl, hmat, hrc, hcl, hkp⟩ := hrel
    have Hgk := Lib.hid hgk
    clear hgk
    have kz := hkp.size
    cases ch
    ·have hce : ClosM t a M := clos_us (fun i hi => by
      have := hcl.out rfl i
      rw [HL.out] at this
      exact this hi)
     have Hm := Lib.hid (hmat.congr (M' := rcB t s a) fun j hj c hc => rc_end hrc.out hce j hj c hc)
     have hbl : Below w.heap.size w wr := hbel.trans (hkp.below (B := w.heap.size) (by omega) (by omega))
     clear hce hmat hkp
     go_wp2
     go_ret
     exact ⟨⟨w.heap.size + 1, rb, rfl, Hm.out, by omega, fun j => by rw [Hrb.out]; omega⟩, hbl⟩
    ·obtain ⟨w5, rfl⟩ : ∃ w5 : World, w5 = wr := ⟨_, rfl⟩
     have b3 := (hkp.cell (p := ⟨G, 3, none⟩) (by show G < _; omega) (.inl (by show G < _; omega))).trans ((hbel.cell (p := ⟨G, 3, none⟩) q0).trans q4)
     have gG : G < w5.heap.size := by omega
     go_wp2
     go_loopw [10, 50] (fun c i wr => ∃ (j : Nat) (M' : Nat → Nat → Bool) (ch : Bool), j ≤ L.length ∧ i = .int .i64 j ∧ c = .bool ch ∧ MatIs wr (w.heap.size + 1) t.vars.length rb (Ld t) M' ∧ Hid (RcI t s a M') ∧ Hid (ch = false → ∀ i, i < j → ((un L i).var, (un L i).val) ≠ a → hsM (un L i).needs M' = true → M' (un L i).var.toNat (un L i).val.toNat = true) ∧ Hid (cnt2 M' (Ld t) t.vars.length ≤ cnt2 M (Ld t) t.vars.length) ∧ Hid (ch = true → cnt2 M' (Ld t) t.vars.length < cnt2 M (Ld t) t.vars.length) ∧ Kp (w.heap.size + 2) (w.heap.size + 2 + t.vars.length) wa wr) (fun _ i _ => L.length - (intOf i).toNat)
     case atStart => exact ⟨0, M, false, by omega, rfl, rfl, hmat, hrc, Lib.hid (fun _ i hi => absurd hi (by omega)), Lib.hid (Nat.le_refl _), Lib.hid (fun h => by cases h), hkp⟩
     case round =>
      clear hmat hrc hkp kz hcl b3 gG
      obtain ⟨j, M', ch, hj, rfl, rfl, hmat, hrc, hcl, hcn, hcs, hkp⟩ := hrel
      have kz := hkp.size
      by_cases hlt : j < L.length
      ·obtain ⟨b1, eU, hb1, hc1⟩ := HU.out (by omega)
       subst eU
       obtain ⟨S, c, f0, f1, f2, f3, f4⟩ := hc1 j hlt
       have hmem : un L j ∈ us t := by rw [← HL.out]; exact un_mem hlt
       have hu := un_right HR.out hmem
       have hbelr : Below w.heap.size w wr := hbel.trans (hkp.below (B := w.heap.size) (by omega) (by omega))
       have d0 := (hbelr.cell (p := ⟨b1, j * 4, none⟩) hb1).trans f0
       have d1 := (hbelr.cell (p := ⟨b1, j * 4 + 1, none⟩) hb1).trans f1
       have d2 := (hbelr.cell (p := ⟨b1, j * 4 + 2, none⟩) hb1).trans f3
       have d3 := (hbelr.cell (p := ⟨b1, j * 4 + 3, none⟩) hb1).trans f4
       have hbzr := hbelr.size
       have g1 : b1 < wr.heap.size := by omega
       have ga : w.heap.size < wa.heap.size := by omega
       have a0 := (hkp.cell (p := ⟨w.heap.size, 0, none⟩) (by show w.heap.size < _; omega) (.inl (by show w.heap.size < _; omega))).trans ha0
       have a1 := (hkp.cell (p := ⟨w.heap.size, 1, none⟩) (by show w.heap.size < _; omega) (.inl (by show w.heap.size < _; omega))).trans ha1
       have gw : w.heap.size < wr.heap.size := by omega
       obtain ⟨uv, huv⟩ : ∃ x : Nat, (un L j).var = (x : Int) := ⟨(un L j).var.toNat, by have := hu.v0; omega⟩
       obtain ⟨ux, hux⟩ : ∃ x : Nat, (un L j).val = (x : Int) := ⟨(un L j).val.toNat, by have := hu.x0; omega⟩
       have hvn : uv < t.vars.length := by have := hu.v1; omega
       have hxl : ux < Ld t uv := by unfold Ld; have := hu.x1; rw [huv, hux] at this; simp only [Int.toNat_natCast] at this; omega
       have Huv := Lib.hid huv
       have Hux := Lib.hid hux
       have Hu := Lib.hid hu
       have Hmem := Lib.hid hmem
       rw [huv] at d2
       rw [hux] at d3
       have lneed := hu.len
       clear hc1 f0 f1 f3 f4 hu hmem huv hux
       have m1 := hmat.top uv hvn
       have m2 := hmat.cell hvn hxl
       have m3 := hmat.frozen ux hvn
       have m4 := hmat.rlt hvn
       have m5 := hmat.glt
       have j0 : (0 : Int) ≤ (j : Int) := by omega
       have j1 : (j : Int) < (L.length : Int) := by omega
       have v0 : (0 : Int) ≤ (uv : Int) := by omega
       have v1 : (uv : Int) < (t.vars.length : Int) := by omega
       have x0 : (0 : Int) ≤ (ux : Int) := by omega
       have x1 : (ux : Int) < (Ld t uv : Int) := by omega
       have r0 : w.heap.size + 2 ≤ rb uv := by rw [Hrb.out]; omega
       have r1 : rb uv < w.heap.size + 2 + t.vars.length := by rw [Hrb.out]; omega
       have KH := Lib.hid (fun wx (hb : Below (wr.alloc (.cells #[.int .i64 ((un L j).op : Int), .slice S (un L j).needs.length c, .int .i64 (uv : Int), .int .i64 (ux : Int)] 82)).heap.size (wr.alloc (.cells #[.int .i64 ((un L j).op : Int), .slice S (un L j).needs.length c, .int .i64 (uv : Int), .int .i64 (ux : Int)] 82)) wx) => has_any t (un L j).needs M' (some ⟨w.heap.size + 1, 0, none⟩) S t.vars.length c (w.heap.size + 1) rb wx (fun _ => rfl) ((hmat.alloc _).up hb) (((f2.up hbelr).up ((Below.refl _ _).alloc (Nat.le_refl _) _)).up hb) Hu.out.rng)
       have HM := Lib.hid hmat
       have HK := Lib.hid hkp
       clear f2 hmat hkp
       by_cases e1 : (uv : Int) = a.1 ∧ (ux : Int) = a.2
       ·have hneq : ∀ w, (binOp .neq 75 (.agg #[.int .i64 (uv : Int), .int .i64 (ux : Int)]) (.agg #[.int .i64 a.1, .int .i64 a.2])).run Tryz.prog w = .ok (.bool false) w := by intro w; simp [go_sem, e1.1, e1.2]
        have Hs := Lib.hid (show ch = false → ∀ i, i < j + 1 → ((un L i).var, (un L i).val) ≠ a → hsM (un L i).needs M' = true → M' (un L i).var.toNat (un L i).val.toNat = true from fun hc i hi hn => by
         rcases Nat.lt_succ_iff_lt_or_eq.1 hi with h | rfl
         ·exact hcl.out hc i h hn
         ·exact absurd (by rw [Huv.out, Hux.out, e1.1, e1.2]) hn)
        clear e1 KH
        go_wp2_with fail
        refine wp_region_aft (by kernel_rfl) (by kernel_rfl) (by (try simp); exact rfl) ?_; intro haft; (repeat (go_big_quiet_step (fail))); refine wpQuiet_nil ?_; intro w7 hwx; have hb7 := aft_below hwx; clear hwx; obtain ⟨hc7, hf7, hz7, hlt7, hle7⟩ := cellsIf hb7 (by (try simp); exact rfl); (try have := s00 w w7); (try have := s01 w w7); (try have := s02 w w7); (try have := s10 w w7); (try have := s11 w w7); (try have := s12 w w7); (try have := s20 w w7); (try have := s21 w w7); (try have := s22 w w7); (try have := s00 w1 w7); (try have := s01 w1 w7); (try have := s02 w1 w7); (try have := s10 w1 w7); (try have := s11 w1 w7); (try have := s12 w1 w7); (try have := s20 w1 w7); (try have := s21 w1 w7); (try have := s22 w1 w7); (try have := s00 w2 w7); (try have := s01 w2 w7); (try have := s02 w2 w7); (try have := s10 w2 w7); (try have := s11 w2 w7); (try have := s12 w2 w7); (try have := s20 w2 w7); (try have := s21 w2 w7); (try have := s22 w2 w7); (try have := s00 w3 w7); (try have := s01 w3 w7); (try have := s02 w3 w7); (try have := s10 w3 w7); (try have := s11 w3 w7); (try have := s12 w3 w7); (try have := s20 w3 w7); (try have := s21 w3 w7); (try have := s22 w3 w7); (try have := s00 w4 w7); (try have := s01 w4 w7); (try have := s02 w4 w7); (try have := s10 w4 w7); (try have := s11 w4 w7); (try have := s12 w4 w7); (try have := s20 w4 w7); (try have := s21 w4 w7); (try have := s22 w4 w7); (try have := s00 w5 w7); (try have := s01 w5 w7); (try have := s02 w5 w7); (try have := s10 w5 w7); (try have := s11 w5 w7); (try have := s12 w5 w7); (try have := s20 w5 w7); (try have := s21 w5 w7); (try have := s22 w5 w7); (try have := s00 w6 w7); (try have := s01 w6 w7); (try have := s02 w6 w7); (try have := s10 w6 w7); (try have := s11 w6 w7); (try have := s12 w6 w7); (try have := s20 w6 w7); (try have := s21 w6 w7); (try have := s22 w6 w7); clear haft
        go_wp2
        go_roundw
        case rel => exact ⟨j + 1, M', ch, by omega, by go_num, rfl, (HM.out.alloc _).up hb7, hrc, Hs, hcn, hcs, (HK.out.alloc _).up hb7⟩
        case measure => simp [intOf]; omega
       have hneq : ∀ w, (binOp .neq 75 (.agg #[.int .i64 (uv : Int), .int .i64 (ux : Int)]) (.agg #[.int .i64 a.1, .int .i64 a.2])).run Tryz.prog w = .ok (.bool true) w := by intro w; simp [go_sem]; omega
       have Hne := Lib.hid e1
       clear e1
       cases e2 : M' uv ux
       case true =>
        rw [e2] at m2
        have Hs := Lib.hid (show ch = false → ∀ i, i < j + 1 → ((un L i).var, (un L i).val) ≠ a → hsM (un L i).needs M' = true → M' (un L i).var.toNat (un L i).val.toNat = true from fun hc i hi hn hh => by
         rcases Nat.lt_succ_iff_lt_or_eq.1 hi with h | rfl
         ·exact hcl.out hc i h hn hh
         ·rw [Huv.out, Hux.out]; exact e2)
        clear KH
        go_wp2_with fail
        refine wp_region_aft (by kernel_rfl) (by kernel_rfl) (by (try simp); exact rfl) ?_; intro haft; (repeat (go_big_quiet_step (fail))); refine wpQuiet_nil ?_; intro w7 hwx; have hb7 := aft_below hwx; clear hwx; obtain ⟨hc7, hf7, hz7, hlt7, hle7⟩ := cellsIf hb7 (by (try simp); exact rfl); (try have := s00 w w7); (try have := s01 w w7); (try have := s02 w w7); (try have := s10 w w7); (try have := s11 w w7); (try have := s12 w w7); (try have := s20 w w7); (try have := s21 w w7); (try have := s22 w w7); (try have := s00 w1 w7); (try have := s01 w1 w7); (try have := s02 w1 w7); (try have := s10 w1 w7); (try have := s11 w1 w7); (try have := s12 w1 w7); (try have := s20 w1 w7); (try have := s21 w1 w7); (try have := s22 w1 w7); (try have := s00 w2 w7); (try have := s01 w2 w7); (try have := s02 w2 w7); (try have := s10 w2 w7); (try have := s11 w2 w7); (try have := s12 w2 w7); (try have := s20 w2 w7); (try have := s21 w2 w7); (try have := s22 w2 w7); (try have := s00 w3 w7); (try have := s01 w3 w7); (try have := s02 w3 w7); (try have := s10 w3 w7); (try have := s11 w3 w7); (try have := s12 w3 w7); (try have := s20 w3 w7); (try have := s21 w3 w7); (try have := s22 w3 w7); (try have := s00 w4 w7); (try have := s01 w4 w7); (try have := s02 w4 w7); (try have := s10 w4 w7); (try have := s11 w4 w7); (try have := s12 w4 w7); (try have := s20 w4 w7); (try have := s21 w4 w7); (try have := s22 w4 w7); (try have := s00 w5 w7); (try have := s01 w5 w7); (try have := s02 w5 w7); (try have := s10 w5 w7); (try have := s11 w5 w7); (try have := s12 w5 w7); (try have := s20 w5 w7); (try have := s21 w5 w7); (try have := s22 w5 w7); (try have := s00 w6 w7); (try have := s01 w6 w7); (try have := s02 w6 w7); (try have := s10 w6 w7); (try have := s11 w6 w7); (try have := s12 w6 w7); (try have := s20 w6 w7); (try have := s21 w6 w7); (try have := s22 w6 w7); clear haft
        go_wp2
        go_roundw
        case rel => exact ⟨j + 1, M', ch, by omega, by go_num, rfl, (HM.out.alloc _).up hb7, hrc, Hs, hcn, hcs, (HK.out.alloc _).up hb7⟩
        case measure => simp [intOf]; omega
       rw [e2] at m2
       cases e3 : hsM (un L j).needs M'
       ·rw [e3] at KH
        have Hs := Lib.hid (show ch = false → ∀ i, i < j + 1 → ((un L i).var, (un L i).val) ≠ a → hsM (un L i).needs M' = true → M' (un L i).var.toNat (un L i).val.toNat = true from fun hc i hi hn hh => by
         rcases Nat.lt_succ_iff_lt_or_eq.1 hi with h | rfl
         ·exact hcl.out hc i h hn hh
         ·rw [e3] at hh; cases hh)
        go_wp2_with fail
        refine wp_region_aft (by kernel_rfl) (by kernel_rfl) (by (try simp); exact rfl) ?_; intro haft; (repeat (go_big_quiet_step ((go_at_call 66; with_reducible exact aft_of (KH.out _ (Aft.below _)))))); refine wpQuiet_nil ?_; intro w7 hwx; have hb7 := aft_below hwx; clear hwx; obtain ⟨hc7, hf7, hz7, hlt7, hle7⟩ := cellsIf hb7 (by (try simp); exact rfl); (try have := s00 w w7); (try have := s01 w w7); (try have := s02 w w7); (try have := s10 w w7); (try have := s11 w w7); (try have := s12 w w7); (try have := s20 w w7); (try have := s21 w w7); (try have := s22 w w7); (try have := s00 w1 w7); (try have := s01 w1 w7); (try have := s02 w1 w7); (try have := s10 w1 w7); (try have := s11 w1 w7); (try have := s12 w1 w7); (try have := s20 w1 w7); (try have := s21 w1 w7); (try have := s22 w1 w7); (try have := s00 w2 w7); (try have := s01 w2 w7); (try have := s02 w2 w7); (try have := s10 w2 w7); (try have := s11 w2 w7); (try have := s12 w2 w7); (try have := s20 w2 w7); (try have := s21 w2 w7); (try have := s22 w2 w7); (try have := s00 w3 w7); (try have := s01 w3 w7); (try have := s02 w3 w7); (try have := s10 w3 w7); (try have := s11 w3 w7); (try have := s12 w3 w7); (try have := s20 w3 w7); (try have := s21 w3 w7); (try have := s22 w3 w7); (try have := s00 w4 w7); (try have := s01 w4 w7); (try have := s02 w4 w7); (try have := s10 w4 w7); (try have := s11 w4 w7); (try have := s12 w4 w7); (try have := s20 w4 w7); (try have := s21 w4 w7); (try have := s22 w4 w7); (try have := s00 w5 w7); (try have := s01 w5 w7); (try have := s02 w5 w7); (try have := s10 w5 w7); (try have := s11 w5 w7); (try have := s12 w5 w7); (try have := s20 w5 w7); (try have := s21 w5 w7); (try have := s22 w5 w7); (try have := s00 w6 w7); (try have := s01 w6 w7); (try have := s02 w6 w7); (try have := s10 w6 w7); (try have := s11 w6 w7); (try have := s12 w6 w7); (try have := s20 w6 w7); (try have := s21 w6 w7); (try have := s22 w6 w7); clear haft
        go_wp2
        go_roundw
        case rel => exact ⟨j + 1, M', ch, by omega, by go_num, rfl, (HM.out.alloc _).up hb7, hrc, Hs, hcn, hcs, (HK.out.alloc _).up hb7⟩
        case measure => simp [intOf]; omega
       ·rw [e3] at KH
        have hmk := rc_markU HR.out hrc.out Hmem.out (by rw [Huv.out, Hux.out]; exact fun e => Hne.out ⟨congrArg Prod.fst e, congrArg Prod.snd e⟩) e3
        rw [Huv.out, Hux.out] at hmk
        have Hmk := Lib.hid (show RcI t s a (put2 M' uv ux) by simpa using hmk)
        have Hcc := Lib.hid (cnt2_put (n := t.vars.length) e2 hxl hvn)
        clear hmk
        go_wp2_with fail
        refine wp_region_aft (by kernel_rfl) (by kernel_rfl) (by (try simp); exact rfl) ?_; intro haft; (repeat (go_big_quiet_step ((go_at_call 66; with_reducible exact aft_of (KH.out _ (Aft.below _)))))); refine wpQuiet_nil ?_; intro w7 hwx; have hb7 := aft_below hwx; clear hwx; obtain ⟨hc7, hf7, hz7, hlt7, hle7⟩ := cellsIf hb7 (by (try simp); exact rfl); (try have := s00 w w7); (try have := s01 w w7); (try have := s02 w w7); (try have := s10 w w7); (try have := s11 w w7); (try have := s12 w w7); (try have := s20 w w7); (try have := s21 w w7); (try have := s22 w w7); (try have := s00 w1 w7); (try have := s01 w1 w7); (try have := s02 w1 w7); (try have := s10 w1 w7); (try have := s11 w1 w7); (try have := s12 w1 w7); (try have := s20 w1 w7); (try have := s21 w1 w7); (try have := s22 w1 w7); (try have := s00 w2 w7); (try have := s01 w2 w7); (try have := s02 w2 w7); (try have := s10 w2 w7); (try have := s11 w2 w7); (try have := s12 w2 w7); (try have := s20 w2 w7); (try have := s21 w2 w7); (try have := s22 w2 w7); (try have := s00 w3 w7); (try have := s01 w3 w7); (try have := s02 w3 w7); (try have := s10 w3 w7); (try have := s11 w3 w7); (try have := s12 w3 w7); (try have := s20 w3 w7); (try have := s21 w3 w7); (try have := s22 w3 w7); (try have := s00 w4 w7); (try have := s01 w4 w7); (try have := s02 w4 w7); (try have := s10 w4 w7); (try have := s11 w4 w7); (try have := s12 w4 w7); (try have := s20 w4 w7); (try have := s21 w4 w7); (try have := s22 w4 w7); (try have := s00 w5 w7); (try have := s01 w5 w7); (try have := s02 w5 w7); (try have := s10 w5 w7); (try have := s11 w5 w7); (try have := s12 w5 w7); (try have := s20 w5 w7); (try have := s21 w5 w7); (try have := s22 w5 w7); (try have := s00 w6 w7); (try have := s01 w6 w7); (try have := s02 w6 w7); (try have := s10 w6 w7); (try have := s11 w6 w7); (try have := s12 w6 w7); (try have := s20 w6 w7); (try have := s21 w6 w7); (try have := s22 w6 w7); clear haft
        have M7 := (HM.out.alloc (.cells #[.int .i64 ((un L j).op : Int), .slice S (un L j).needs.length c, .int .i64 (uv : Int), .int .i64 (ux : Int)] 82)).up hb7
        have s1 := M7.top uv hvn
        have s2 := M7.cell hvn hxl
        have s3 := M7.frozen ux hvn
        have s4 := M7.rlt hvn
        have s5 := M7.glt
        have z7 := hb7.size
        simp only [World.size_alloc] at z7
        have s6 : w7.cell? ⟨wr.heap.size, 2, none⟩ = some (.int .i64 (uv : Int)) := (hb7.cell (p := ⟨wr.heap.size, 2, none⟩) (by simp)).trans (by simp)
        have s7 : w7.cell? ⟨wr.heap.size, 3, none⟩ = some (.int .i64 (ux : Int)) := (hb7.cell (p := ⟨wr.heap.size, 3, none⟩) (by simp)).trans (by simp)
        have s8 : wr.heap.size < w7.heap.size := z7
        have Hlt := Lib.hid (show cnt2 (put2 M' uv ux) (Ld t) t.vars.length < cnt2 M (Ld t) t.vars.length by have := Hcc.out; have := hcn.out; omega)
        go_wp2_with fail
        refine wp_region_G 10 (fun w' => w'.cell? ⟨wr.heap.size, 2, none⟩ = some (.int .i64 (uv : Int)) ∧ w'.cell? ⟨wr.heap.size, 3, none⟩ = some (.int .i64 (ux : Int)) ∧ w'.cell? ⟨w.heap.size + 1, uv, none⟩ = some (.slice (some ⟨rb uv, 0, none⟩) (Ld t uv) (Ld t uv))) (by kernel_rfl) (⟨s6, s7, s1⟩) ?_
        intro hG0
        refine wpS1 0 hG0 ?_; intro hG1; clear hG0
        refine wpS1 1 hG1 ?_; intro hG2; clear hG1
        refine wpS1 2 hG2 ?_; intro hG3; clear hG2
        refine wpS2 3 hG3 ?_; intro hG4; clear hG3
        refine wpS1 4 hG4 ?_; intro hG5; clear hG4
        refine wpS2 5 hG5 ?_; intro hG6; clear hG5
        refine wpS1 6 hG6 ?_; intro hG7; clear hG6
        refine wpS1 7 hG7 ?_; intro hG8; clear hG7
        refine wpS2 8 hG8 ?_; intro hG9; clear hG8
        refine wpS1 9 hG9 ?_; intro hG10; clear hG9
        refine wpAnyG_ready (rs := [10]) (by kernel_rfl) (by simp) (AllG.cons rfl hG10 (fun K hK => ?_) AllG.nil)
        (go_simp)
        refine hK.out _ _ (Or.inl rfl) (fun hG11 => wpN ?_); clear hK hG10
        refine wpAnyG_done (by kernel_rfl) ?_ _; clear hG11
        go_wp2
        go_roundw
        case rel => exact ⟨j + 1, put2 M' uv ux, true, by omega, by go_num, rfl, MatIs.put_true (M7.drew) hvn (fun _ _ _ _ => rfl), Hmk, Lib.hid (fun h => by cases h), Lib.hid (by have := Hlt.out; omega), Lib.hid (fun _ => Hlt.out), (((HK.out.alloc _).up hb7).drew).set (p := ⟨rb uv, ux, none⟩) r0 r1 _⟩
        case measure => simp [intOf]; omega
      ·obtain rfl : j = L.length := by omega
       have Hg := Lib.hid (show 2 * cnt2 M' (Ld t) t.vars.length + (if ch then 1 else 0) < gk by
        have h1 := Hgk.out
        have h2 := hcs.out
        have h3 := hcn.out
        cases ch
        ·simp at h1 ⊢; omega
        ·have := h2 rfl; simp at h1 ⊢; omega)
       go_wp2
       go_roundg (2 * cnt2 M' (Ld t) t.vars.length + (if ch then 1 else 0))
       case measure => exact Hg.out
       case rel => exact ⟨M', ch, rfl, rfl, hmat, hrc, hcl, hkp⟩

theorem reached_any (t : Tsk) (q : LiesF) (G : Nat) (s : List Int) (AS : Option Addr) (cs : Nat) (a : Int × Int) (w : World) (hF : FindAt w G t q) (hs : IntsAt w w.heap.size AS s) (hst : stB t.vars s = true) (hr : Right t) :
  Calls Tryz.prog 64 #[.pointer (some ⟨G, 0, none⟩), .slice AS s.length cs, .agg #[.int .i64 a.1, .int .i64 a.2]] w fun e w' => ReaRet t s a w e w' ∧ Below w.heap.size w w' :=
 (reached_any2 t q G s AS cs a w hF hs hst hr).mono fun e w' ⟨⟨g, rb, h1, h2, _⟩, h3⟩ => ⟨⟨g, rb, h1, h2⟩, h3⟩

end Go.Proofs.YtaampjhdgeoicaaGreat

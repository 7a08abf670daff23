/- Texts laid together: VbR, VbS, VbT, VbU. -/
import Derived.Test.YtlkebhiaimijiaaGreatDoorNgG
namespace Go.Proofs.YtlkebhiaimijiaaGreatDoor
set_option linter.unusedSimpArgs false
set_option linter.unusedVariables false
section
open Go Go.RowKit
set_option linter.unusedVariables false

/-- One growing row of slices of facts; the facts are new, outside of it. -/
structure Gr1 (w : World) (os : List Hd) (O : Value) (wr : World) : Prop where
 bel : Below w.heap.size w wr
 own : wr.ownsRow w.heap.size 23 1 O os.length (os.map Hd.v)
 fac : ∀ h ∈ os, Fac wr (fun b => b < w.heap.size ∨ O.ownBlock = some b) h.a h.l
section
variable {w wr w1 w2 : World} {os : List Hd} {O O' : Value}
theorem Gr1.nil (h : Below w.heap.size w wr) : Gr1 w [] (.slice none 0 0) wr := ⟨h, World.ownsRow_nil _ _ _ _, fun h hh => by cases hh⟩
theorem Gr1.up (h : Gr1 w os O wr) (k : Below wr.heap.size wr w1) : Gr1 w os O w1 := ⟨h.bel.trans (k.mono h.bel.size), own_below h.own k, fun x hx => (h.fac x hx).up k⟩
theorem Gr1.push (h : Gr1 w os O wr) (x : Hd) (hx : Fac wr (fun b => b < w.heap.size ∨ O.ownBlock = some b) x.a x.l) (ho : w1.ownsRow w.heap.size 23 1 O' (os.length + 1) (os.map Hd.v ++ [x.v])) (hg : wr.grownBy w1 O.ownBlock) (hat : O'.ownBlock = O.ownBlock ∨ O'.ownBlock = some wr.heap.size) : Gr1 w (os ++ [x]) O' w1 := by
 have m : Moves wr w1 (fun b => b < w.heap.size ∨ O.ownBlock = some b) (fun b => b < w.heap.size ∨ O'.ownBlock = some b) := Moves.grownTo hg hat
 exact ⟨h.bel.grown hg h.bel.size (fun b hb => (h.own.lt b hb).1), by rw [List.length_append, List.map_append]; exact ho, fun y hy => by
  rcases List.mem_append.1 hy with hy | hy
  ·exact (h.fac y hy).move m
  ·simp at hy; subst hy; exact hx.move m⟩
theorem Gr1.orl (h : Gr1 w os O wr) : Orl wr w.heap.size (fun b => b < w.heap.size ∨ O.ownBlock = some b) O os := ⟨h.own, h.fac⟩
theorem Gr1.bad (h : Gr1 w os O wr) {A : Option Addr} {z : List Fct} {w3 : World} (hz : Fac w3 (fun b => b < wr.heap.size) A z) : Fac w3 (fun b => b < w.heap.size ∨ O.ownBlock = some b) A z :=
 hz.sub fun b _ hb => hb.elim (fun h1 => Nat.lt_of_lt_of_le h1 h.bel.size) (fun h1 => (h.own.lt b h1).2)
theorem Gr1.list (h : Gr1 w os O wr) {A : Option Addr} {c : Nat} (e : O = .slice A os.length c) (hl : os.length ≤ 1000000) : Rls wr (fun _ => False) A os := by
 subst e
 exact Orl.rls ⟨h.own, fun x hx => (h.fac x hx).sub (fun _ _ h => h.elim)⟩ hl (fun _ _ _ h => h)
end
/-- A fact in a block of its own. -/
theorem fac_one {w : World} {H : Nat} {v x : Int} {bad : Nat → Prop} (h : BxI w H 68 #[.int .i64 v, .int .i64 x]) (hb : ¬ bad H) : Fac w bad (some ⟨H, 0, none⟩) [(v, x)] :=
 ⟨by simp, fun _ => ⟨H, 0, rfl, h.lt, hb, fun k hk => by
  obtain rfl : k = 0 := by simpa using hk
  exact ⟨h.cell 0 _ rfl, h.cell 1 _ rfl⟩⟩⟩
/-- What has been made: of the first i facts, of the next one the first j values. -/
def SiM (vars : List Int) (l : List Fct) (i j : Nat) (z : List Fct) : Prop := ∃ a b : Nat, a < l.length ∧ (a < i ∨ (a = i ∧ b < j)) ∧ (b : Int) < nth vars (fv l a).toNat ∧ (b : Int) ≠ fx l a ∧ z = [(fv l a, (b : Int))]
theorem siM_step {vars : List Int} {l : List Fct} {i j : Nat} (hi : i < l.length) (hj : (j : Int) < nth vars (fv l i).toNat) {z : List Fct} : SiM vars l i (j + 1) z ↔ SiM vars l i j z ∨ ((j : Int) ≠ fx l i ∧ z = [(fv l i, (j : Int))]) := by
 constructor
 ·rintro ⟨a, b, h1, h2, h3, h4, h5⟩
  by_cases e : a = i ∧ b = j
  ·obtain ⟨rfl, rfl⟩ := e; exact .inr ⟨h4, h5⟩
  ·exact .inl ⟨a, b, h1, by omega, h3, h4, h5⟩
 ·rintro (⟨a, b, h1, h2, h3, h4, h5⟩ | ⟨h4, h5⟩)
  ·exact ⟨a, b, h1, by omega, h3, h4, h5⟩
  ·exact ⟨i, j, hi, by omega, hj, h4, h5⟩
theorem siM_next {vars : List Int} {l : List Fct} {i j : Nat} (hj : ¬ (j : Int) < nth vars (fv l i).toNat) {z : List Fct} : SiM vars l i j z ↔ SiM vars l (i + 1) 0 z := by
 constructor
 ·rintro ⟨a, b, h1, h2, h3, h4, h5⟩
  exact ⟨a, b, h1, by omega, h3, h4, h5⟩
 ·rintro ⟨a, b, h1, h2, h3, h4, h5⟩
  refine ⟨a, b, h1, ?_, h3, h4, h5⟩
  by_cases e : a = i
  ·subst e; right; exact ⟨rfl, by omega⟩
  ·left; omega
theorem siM_all {vars : List Int} {e : Eff} {z : List Fct} : SiM vars e.whn e.whn.length 0 z ↔ QuietS vars e z := by
 constructor
 ·rintro ⟨a, b, h1, h2, h3, h4, h5⟩
  exact ⟨_, fct_mem h1, (b : Int), by omega, h3, h4, h5⟩
 ·rintro ⟨f, hf, v, h0, h1, h2, rfl⟩
  obtain ⟨k, hk, rfl⟩ := mem_fct hf
  exact ⟨k, v.toNat, hk, .inl hk, by show ((v.toNat : Nat) : Int) < _; rw [show ((v.toNat : Nat) : Int) = v by omega]; exact h1, by rw [show ((v.toNat : Nat) : Int) = v by omega]; exact h2, by rw [show ((v.toNat : Nat) : Int) = v by omega]⟩
theorem siM_fa {vars : List Int} {l : List Fct} (hl : faB vars l = true) {i j : Nat} {z : List Fct} (h : SiM vars l i j z) : faB vars z = true := by
 obtain ⟨a, b, h1, h2, h3, h4, rfl⟩ := h
 have := fa_inv hl _ (fct_mem h1)
 exact faB_one this.1 this.2.1 (by omega) h3
theorem siM_new {vars : List Int} {l : List Fct} (hl : faB vars l = true) {i j : Nat} (hi : i < l.length) : ¬ SiM vars l i j [(fv l i, (j : Int))] := by
 rintro ⟨a, b, h1, h2, h3, h4, h5⟩
 have e1 : fv l i = fv l a := by injection h5 with h5 _; exact (Prod.mk.inj h5).1
 have e2 : (j : Int) = (b : Int) := by injection h5 with h5 _; exact (Prod.mk.inj h5).2
 rcases h2 with h2 | h2
 ·have hp := List.pairwise_iff_getElem.1 (fa_asc hl) a i (by omega) hi h2
  rw [fct_get h1, fct_get hi] at hp
  dsimp only at hp
  omega
 ·omega
/-- The list so far. -/
structure SiI (vars : List Int) (l : List Fct) (w : World) (i j : Nat) (os : List Hd) (O : Value) (wr : World) : Prop where
 gr : Gr1 w os O wr
 nodup : (hls os).Nodup
 mem : ∀ z, z ∈ hls os ↔ SiM vars l i j z
 len : os.length ≤ 64 * i + j
theorem hls_snoc (os : List Hd) (x : Hd) : hls (os ++ [x]) = hls os ++ [x.l] := by unfold hls; rw [List.map_append]; rfl
theorem nodup_snoc {L : List (List Fct)} {z : List Fct} (h : L.Nodup) (hz : z ∉ L) : (L ++ [z]).Nodup := by
 rw [List.nodup_append]
 refine ⟨h, by simp, fun a ha b hb e => ?_⟩
 simp at hb; subst hb; subst e; exact hz ha
end

section
open Go Go.RowKit
set_option linter.unusedVariables false

theorem own_ne_bx {w : World} {B s n X : Nat} {e T : TypeId} {v : Value} {xs : List Value} {cs : Array Value} (h : w.ownsRow B e s v n xs) (hx : BxI w X T cs) (hne : T ≠ e) : some X ≠ v.ownBlock := by
 rcases h.2 with ⟨rfl, _⟩ | ⟨g, cap, cur, rfl, _, hg, _⟩
 ·simp [Value.ownBlock]
 ·intro he
  have e1 : g = X := by simpa [Value.ownBlock] using he.symm
  subst e1
  unfold BxI at hx
  rw [hg] at hx
  injection hx with hx
  injection hx with _ hx
  exact hne hx.symm
set_option maxRecDepth 20000 in
set_option maxHeartbeats 8000000 in
theorem silent_any (vars : List Int) (e : Eff) (av S : Option Addr) (cv c : Nat) (w : World) (h1 : IntsAt w w.heap.size av vars) (h2 : FactsAt w w.heap.size S e.whn) (hf : faB vars e.whn = true) (hv : vars.length ≤ 64) (hdm : ∀ k, k < vars.length → nth vars k ≤ 64) :
  Calls Tryz.prog 119 #[.slice av vars.length cv, .agg #[.slice S e.whn.length c, .int .i64 e.var, .int .i64 e.val]] w fun ee w' => ListRet vars (QuietS vars e) w ee w' ∧ Below w.heap.size w w' := by
 have H1 := Lib.hid h1
 have H2 := Lib.hid h2
 have HF := Lib.hid hf
 have hwl : e.whn.length ≤ 64 := by have := fa_len hf; omega
 obtain ⟨inf, hinf, iz0, iz1, iz2⟩ := info_parts ninfL
 obtain ⟨l, hl⟩ : ∃ l, l = e.whn := ⟨_, rfl⟩
 rw [← hl] at H2 HF hwl ⊢
 have HL := Lib.hid hl
 obtain ⟨W0, hW0⟩ : ∃ W0, W0 = w.alloc (.cells #[.slice S l.length c, .int .i64 e.var, .int .i64 e.val] 65) := ⟨_, rfl⟩
 have HB0 := Lib.hid (show Below w.heap.size w W0 by rw [hW0]; exact (Below.refl _ _).alloc (Nat.le_refl _) _)
 have x0 : W0.cell? ⟨w.heap.size, 0, none⟩ = some (.slice S l.length c) := by rw [hW0]; exact (BxI.new w 65 #[.slice S l.length c, .int .i64 e.var, .int .i64 e.val]).cell 0 _ rfl
 have hz0 : W0.heap.size = w.heap.size + 1 := by rw [hW0]; simp
 clear h1 h2 hf hl
 go_enter Tryz.func119, Tryz.ntmps119
 go_wp2_with fail
 rw [← hW0]
 have HW0 := Lib.hid hW0
 clear hW0
 go_wp2_with fail
 clear x0
 go_loopw [6, 13] (fun v6 v13 wr => ∃ (i : Nat) (os : List Hd) (OA : Option Addr) (OC : Nat), v6 = .slice OA os.length OC ∧ v13 = .int .i64 i ∧ i ≤ l.length ∧ Hid (SiI vars l w i 0 os (.slice OA os.length OC) wr)) (fun _ v13 _ => l.length - (intOf v13).toNat)
 case atStart => exact ⟨0, [], none, 0, rfl, rfl, by omega, Lib.hid ⟨Gr1.nil HB0.out, List.nodup_nil, fun z => ⟨(fun h => by cases h), (fun ⟨a, b, h1, h2, _⟩ => by omega)⟩, by simp⟩⟩
 case round =>
  obtain ⟨i, os, OA, OC, rfl, rfl, hi, HJ⟩ := hrel
  obtain ⟨wt, rfl⟩ : ∃ wt : World, wt = wr := ⟨_, rfl⟩
  have hbz := HJ.out.gr.bel.size
  by_cases hlt : i < l.length
  ·obtain ⟨b, o, hS, hb, hc⟩ := H2.out.at_ hlt
   have d1 := (HJ.out.gr.bel.cell (p := ⟨b, o + i * 2, none⟩) hb).trans (hc i hlt).1
   have d2 := (HJ.out.gr.bel.cell (p := ⟨b, o + i * 2 + 1, none⟩) hb).trans (hc i hlt).2
   have hin := fa_inv HF.out _ (fct_mem hlt)
   dsimp only at hin
   obtain ⟨x, hx⟩ : ∃ x, x = fv l i := ⟨_, rfl⟩
   obtain ⟨y, hy⟩ : ∃ y, y = fx l i := ⟨_, rfl⟩
   rw [← hx] at d1 hin
   rw [← hy] at d2 hin
   have HX := Lib.hid hx
   have HY := Lib.hid hy
   obtain ⟨vb, vo, hav, hvb, hvc⟩ := H1.out.at_ (k := x.toNat) (by omega)
   have d3 := (HJ.out.gr.bel.cell (p := ⟨vb, vo + x.toNat, none⟩) hvb).trans (hvc x.toNat (by omega))
   obtain ⟨m, hm⟩ : ∃ m, m = nth vars x.toNat := ⟨_, rfl⟩
   have hmb : m ≤ 64 := by rw [hm]; exact hdm _ (by omega)
   rw [← hm] at d3
   have HM := Lib.hid hm
   have hx0 : 0 ≤ x := hin.1
   have hx1 : x < (vars.length : Int) := hin.2.1
   have g1 : b < wt.heap.size := by omega
   have g2 : vb < wt.heap.size := by omega
   clear hc hx hy hvc hm hin
   rw [hS, hav]
   obtain ⟨W1, hW1⟩ : ∃ W1, W1 = wt.alloc (.cells #[.int .i64 x, .int .i64 y] 68) := ⟨_, rfl⟩
   have HBX := Lib.hid (show BxI W1 wt.heap.size 68 #[.int .i64 x, .int .i64 y] by rw [hW1]; exact BxI.new _ _ _)
   have HJ1 := Lib.hid (show SiI vars l w i 0 os (.slice OA os.length OC) W1 by rw [hW1]; exact { HJ.out with gr := HJ.out.gr.up ((Below.refl _ _).alloc (Nat.le_refl _) _) })
   go_wp2_with fail
   rw [← hW1]
   have HW1 := Lib.hid hW1
   clear hW1 d1 d2 d3
   go_loopw [6, 22] (fun v6 v22 wr => ∃ (j : Nat) (os : List Hd) (OA : Option Addr) (OC : Nat), v6 = .slice OA os.length OC ∧ v22 = .int .i64 j ∧ j ≤ m.toNat ∧ Hid (SiI vars l w i j os (.slice OA os.length OC) wr) ∧ Hid (BxI wr wt.heap.size 68 #[.int .i64 x, .int .i64 y])) (fun _ v22 _ => m.toNat - (intOf v22).toNat)
   case atStart => exact ⟨0, os, OA, OC, rfl, rfl, by omega, HJ1, HBX⟩
   case round =>
    clear HJ HJ1
    obtain ⟨j, os, OA, OC, rfl, rfl, hj, HJ, HE⟩ := hrel
    obtain ⟨wu, rfl⟩ : ∃ wu : World, wu = wr := ⟨_, rfl⟩
    have y0 := HE.out.cell 0 (.int .i64 x) rfl
    have y1 := HE.out.cell 1 (.int .i64 y) rfl
    have hFlt := HE.out.lt
    by_cases hlt2 : (j : Int) < m
    ·have hjm : (j : Int) < nth vars (fv l i).toNat := by rw [← HX.out, ← HM.out]; exact hlt2
     by_cases hne : (j : Int) = y
     ·have HS := Lib.hid (show SiI vars l w i (j + 1) os (.slice OA os.length OC) wu from { HJ.out with mem := fun z => (HJ.out.mem z).trans ((siM_step hlt hjm).trans ⟨fun h => h.elim id (fun h => absurd (hne.trans HY.out) h.1), fun h => .inl h⟩).symm, len := by have := HJ.out.len; omega })
      clear hjm
      go_wp2
      go_roundw
      case rel => exact ⟨j + 1, os, OA, OC, rfl, by go_num, by omega, HS, HE⟩
      case measure => simp [intOf]; omega
     ·have hol := HJ.out.len
      have HO := Lib.hid HJ.out.gr.own
      have hwz := HJ.out.gr.bel.size
      have HJM := Lib.hid hjm
      clear hjm
      go_wp2_with (at_builtin; refine wpList_append_src (by rfl) _ _ 77 (by rfl) w.heap.size 23 inf (.slice none 0 0) 1 24 nundL hinf iz0 iz1 iz2 rfl (by decide) (.slice OA os.length OC) os.length (os.map Hd.v) (by rfl) (by exact (HO.out.alloc _).alloc _) (some ⟨wu.heap.size + 1, 0, none⟩) 1 1 [.slice (some ⟨wu.heap.size, 0, none⟩) 1 1] (by rfl) (src_of (BxI.new2 wu _ 23 _) rfl (by intro u hu; simp at hu; subst hu; rfl)) (by unfold maxLen; omega) (by omega) (by first | omega | (simp; done) | (simp; omega)) ?_; intro v4 w4 hown4 hgrow4 hat4; obtain ⟨A4, c4, rfl⟩ := own_shape hown4; have HO4 := Lib.hid hown4; have HG4 := Lib.hid hgrow4; have HA4 := Lib.hid hat4; clear hown4 hgrow4 hat4)
      have HU := Lib.hid (show Below wu.heap.size wu ((wu.alloc (.cells #[.int .i64 x, .int .i64 j] 68)).alloc (.cells #[.slice (some ⟨wu.heap.size, 0, none⟩) 1 1] 23)) from ((Below.refl _ _).alloc (Nat.le_refl _) _).alloc (by simp) _)
      have HN := Lib.hid (show Gr1 w (os ++ [(⟨some ⟨wu.heap.size, 0, none⟩, 1, [(x, (j : Int))]⟩ : Hd)]) (.slice A4 (os.length + 1) c4) w4 from (HJ.out.gr.up HU.out).push ⟨some ⟨wu.heap.size, 0, none⟩, 1, [(x, (j : Int))]⟩ (fac_one ((BxI.new wu 68 #[.int .i64 x, .int .i64 j]).up ((Below.refl _ _).alloc (Nat.le_refl _) _)) (fun hb => by
       rcases hb with hb | hb
       ·omega
       ·have := (HO.out.lt _ hb).2; omega)) HO4.out HG4.out HA4.out)
      have HE4 := Lib.hid (show BxI w4 wt.heap.size 68 #[.int .i64 x, .int .i64 y] from (HE.out.up HU.out).grown HG4.out (own_ne_bx (own_below HO.out HU.out) (HE.out.up HU.out) (by decide)))
      have HSI := Lib.hid (show SiI vars l w i (j + 1) (os ++ [(⟨some ⟨wu.heap.size, 0, none⟩, 1, [(x, (j : Int))]⟩ : Hd)]) (.slice A4 (os.length + 1) c4) w4 from
       {
        gr := HN.out
        nodup := by rw [hls_snoc]; exact nodup_snoc HJ.out.nodup fun hh => siM_new HF.out hlt (by have := (HJ.out.mem _).1 hh; rwa [HX.out] at this)
        mem := fun z => by
         rw [hls_snoc, List.mem_append, siM_step hlt HJM.out, HJ.out.mem]
         constructor
         ·rintro (h | h)
          ·exact .inl h
          ·right; rw [← HX.out]; exact ⟨by rw [← HY.out]; exact hne, by simpa using h⟩
         ·rintro (h | ⟨_, h⟩)
          ·exact .inl h
          ·right; rw [h, ← HX.out]; simp
        len := by rw [List.length_append]; simp; omega })
      have Hlen : (os ++ [(⟨some ⟨wu.heap.size, 0, none⟩, 1, [(x, (j : Int))]⟩ : Hd)]).length = os.length + 1 := by simp
      go_roundw
      case rel => exact ⟨j + 1, os ++ [(⟨some ⟨wu.heap.size, 0, none⟩, 1, [(x, (j : Int))]⟩ : Hd)], A4, c4, by rw [Hlen], by go_num, by omega, Lib.hid (by rw [Hlen]; exact HSI.out), HE4⟩
      case measure => simp [intOf]; omega
    ·have HS := Lib.hid (show SiI vars l w (i + 1) 0 os (.slice OA os.length OC) wu from { HJ.out with mem := fun z => (HJ.out.mem z).trans (siM_next (by rw [← HX.out, ← HM.out]; exact hlt2)), len := by have := HJ.out.len; omega })
     go_wp2
     go_roundw
     case rel => exact ⟨i + 1, os, OA, OC, rfl, by go_num, by omega, HS⟩
     case measure => simp [intOf]; omega
  ·have hil : i = l.length := by omega
   have hol := HJ.out.len
   have HFA := Lib.hid (show ∀ z ∈ hls os, faB vars z = true from fun z hz => siM_fa HF.out ((HJ.out.mem z).1 hz))
   have HME := Lib.hid (show ∀ z, z ∈ hls os ↔ QuietS vars e z from fun z => (HJ.out.mem z).trans (by rw [hil, HL.out]; exact siM_all))
   clear hil
   by_cases hbig : 1024 < os.length
   ·have Hnp := Lib.hid (show 1025 ≤ npV vars by have := np_bound HJ.out.nodup HFA.out; rw [hls_len] at this; omega)
    have e1 : decide ((1024 : Int) < os.length) = true := decide_eq_true (by omega)
    go_wp2
    refine bodyPost_ret (v := .tuple #[.slice none 0 0, .iface 49 (.int .i64 5)]) (by simp [results, Tryz.results119, go_sem]) rfl ⟨.inr ⟨rfl, Hnp.out⟩, HJ.out.gr.bel⟩
   ·have e1 : decide ((1024 : Int) < os.length) = false := decide_eq_false (by omega)
    go_wp2
    refine bodyPost_ret (v := .tuple #[.slice OA os.length OC, .nilIface]) (by simp [results, Tryz.results119, go_sem]) rfl ⟨.inl ⟨OA, OC, os, rfl, HJ.out.gr.orl, HJ.out.nodup, HME.out, HFA.out, by omega⟩, HJ.out.gr.bel⟩
end

section
open Go Go.RowKit
set_option linter.unusedVariables false

theorem silS_snoc {vars : List Int} {x : Int} : ∀ (l : List Eff) (e : Eff) (A : PSet), SilS vars x (l ++ [e]) A = if e.val = x then SilS vars x l A else JoinS (SilS vars x l A) (QuietS vars e)
 | [], e, A => by
  show SilS vars x [e] A = _
  unfold SilS SilS
  rfl
 | b :: r, e, A => by
  have e1 : SilS vars x (b :: r ++ [e]) A = if b.val = x then SilS vars x (r ++ [e]) A else SilS vars x (r ++ [e]) (JoinS A (QuietS vars b)) := rfl
  have e2 : SilS vars x (b :: r) A = if b.val = x then SilS vars x r A else SilS vars x r (JoinS A (QuietS vars b)) := rfl
  rw [e1, e2]
  by_cases h : b.val = x
  ·rw [if_pos h, if_pos h]; exact silS_snoc r e A
  ·rw [if_neg h, if_neg h]; exact silS_snoc r e _
theorem effsOn_snoc (l : List Eff) (e : Eff) (v : Int) : effsOn (l ++ [e]) v = if e.var = v then effsOn l v ++ [e] else effsOn l v := by
 unfold effsOn
 rw [List.filter_append]
 by_cases h : e.var = v
 ·rw [if_pos h]; simp [h]
 ·rw [if_neg h]; simp [h]
theorem effsOn_len (l : List Eff) (v : Int) : (effsOn l v).length ≤ l.length := List.length_filter_le _ _
/-- The cases of the effects from place p - 1 on (p = 0: all). -/
def CsM (vars : List Int) (es : List Eff) (f : Fct) (p : Nat) (z : List Fct) : Prop :=
 (∃ q, q < es.length ∧ p ≤ q + 1 ∧ (eff es q).val = f.2 ∧ SilS vars f.2 (es.drop (q + 1)) (fun y => y = (eff es q).whn) z) ∨ (p = 0 ∧ SilS vars f.2 es (fun y => y = [f]) z)
theorem csM_start {vars : List Int} {es : List Eff} {f : Fct} {z : List Fct} : ¬ CsM vars es f (es.length + 1) z := by
 rintro (⟨q, h1, h2, _⟩ | ⟨h, _⟩) <;> omega
theorem csM_skip {vars : List Int} {es : List Eff} {f : Fct} {p : Nat} (hne : (eff es p).val ≠ f.2) {z : List Fct} : CsM vars es f (p + 2) z ↔ CsM vars es f (p + 1) z := by
 constructor
 ·rintro (⟨q, h1, h2, h3, h4⟩ | ⟨h, _⟩)
  ·exact .inl ⟨q, h1, by omega, h3, h4⟩
  ·omega
 ·rintro (⟨q, h1, h2, h3, h4⟩ | ⟨h, _⟩)
  ·refine .inl ⟨q, h1, ?_, h3, h4⟩
   rcases Nat.lt_or_ge p q with h | h
   ·omega
   ·obtain rfl : q = p := by omega
    exact absurd h3 hne
  ·omega
theorem csM_yes {vars : List Int} {es : List Eff} {f : Fct} {p : Nat} (hp : p < es.length) (he : (eff es p).val = f.2) {z : List Fct} : CsM vars es f (p + 1) z ↔ CsM vars es f (p + 2) z ∨ SilS vars f.2 (es.drop (p + 1)) (fun y => y = (eff es p).whn) z := by
 constructor
 ·rintro (⟨q, h1, h2, h3, h4⟩ | ⟨h, _⟩)
  ·rcases Nat.lt_or_ge p q with h | h
   ·exact .inl (.inl ⟨q, h1, by omega, h3, h4⟩)
   ·obtain rfl : q = p := by omega
    exact .inr h4
  ·omega
 ·rintro ((⟨q, h1, h2, h3, h4⟩ | ⟨h, _⟩) | h)
  ·exact .inl ⟨q, h1, by omega, h3, h4⟩
  ·omega
  ·exact .inl ⟨p, hp, by omega, he, h⟩
theorem csM_last {vars : List Int} {es : List Eff} {f : Fct} {z : List Fct} : CsM vars es f 0 z ↔ CsM vars es f 1 z ∨ SilS vars f.2 es (fun y => y = [f]) z := by
 constructor
 ·rintro (⟨q, h1, h2, h3, h4⟩ | ⟨_, h⟩)
  ·exact .inl (.inl ⟨q, h1, by omega, h3, h4⟩)
  ·exact .inr h
 ·rintro ((⟨q, h1, h2, h3, h4⟩ | ⟨h, _⟩) | h)
  ·exact .inl ⟨q, h1, by omega, h3, h4⟩
  ·omega
  ·exact .inr ⟨rfl, h⟩
theorem split_eff {es : List Eff} {q : Nat} (h : q < es.length) : es = es.take q ++ eff es q :: es.drop (q + 1) := by
 have e : es[q] = eff es q := by unfold eff; simp [List.getD, List.getElem?_eq_getElem h]
 rw [← e, List.getElem_cons_drop h, List.take_append_drop]
theorem csM_all {vars : List Int} {es : List Eff} {f : Fct} {z : List Fct} : CsM vars (effsOn es f.1) f 0 z ↔ CaseS vars es f z := by
 unfold CsM CaseS
 constructor
 ·rintro (⟨q, h1, h2, h3, h4⟩ | ⟨_, h⟩)
  ·exact .inr ⟨_, _, _, split_eff h1, h3, h4⟩
  ·exact .inl h
 ·rintro (h | ⟨l1, e, l2, h1, h2, h3⟩)
  ·exact .inr ⟨rfl, h⟩
  ·have hq : l1.length < (effsOn es f.1).length := by rw [h1]; simp
   have he : eff (effsOn es f.1) l1.length = e := by rw [h1]; unfold eff; simp [List.getD]
   have hd : (effsOn es f.1).drop (l1.length + 1) = l2 := by rw [h1]; simp
   exact .inl ⟨l1.length, hq, by omega, by rw [he]; exact h2, by rw [hd, he]; exact h3⟩
/-- A row of the call's own of slices of facts, the facts outside of it and of q. -/
structure Gr0 (w : World) (q : Nat → Prop) (os : List Hd) (O : Value) (wr : World) : Prop where
 bel : Below w.heap.size w wr
 own : wr.ownsRow w.heap.size 23 1 O os.length (os.map Hd.v)
 fac : ∀ h ∈ os, Fac wr (fun b => O.ownBlock = some b ∨ q b) h.a h.l
section
variable {w wr w1 : World} {q : Nat → Prop} {os : List Hd} {O O' : Value}
theorem Gr0.nil (h : Below w.heap.size w wr) : Gr0 w q [] (.slice none 0 0) wr := ⟨h, World.ownsRow_nil _ _ _ _, fun h hh => by cases hh⟩
theorem Gr0.up (h : Gr0 w q os O wr) (k : Below wr.heap.size wr w1) : Gr0 w q os O w1 := ⟨h.bel.trans (k.mono h.bel.size), own_below h.own k, fun x hx => (h.fac x hx).up k⟩
theorem Gr0.push (h : Gr0 w q os O wr) (x : Hd) (hx : Fac wr (fun b => O.ownBlock = some b ∨ q b) x.a x.l) (ho : w1.ownsRow w.heap.size 23 1 O' (os.length + 1) (os.map Hd.v ++ [x.v])) (hg : wr.grownBy w1 O.ownBlock) (hat : O'.ownBlock = O.ownBlock ∨ O'.ownBlock = some wr.heap.size) : Gr0 w q (os ++ [x]) O' w1 :=
 have m := moves_grow (q := q) hg hat
 ⟨h.bel.grown hg h.bel.size (fun b hb => (h.own.lt b hb).1), by rw [List.length_append, List.map_append]; exact ho, fun y hy => by
  rcases List.mem_append.1 hy with hy | hy
  ·exact (h.fac y hy).move m
  ·simp at hy; subst hy; exact hx.move m⟩
theorem Gr0.rls {A : Option Addr} {c : Nat} (h : Gr0 w q os (.slice A os.length c) wr) (hl : os.length ≤ 1000000) : Rls wr (fun _ => False) A os :=
 Orl.rls ⟨h.own, fun x hx => (h.fac x hx).sub (fun _ _ h => h.elim)⟩ hl (fun _ _ _ h => h)
end
/-- What cases returns. -/
def CasRet (vars : List Int) (q : Nat → Prop) (X : List Fct → Prop) (w : World) (e : Ending) (w' : World) : Prop :=
 (∃ (A : Option Addr) (c : Nat) (os : List Hd), e = .returned (.tuple #[.slice A os.length c, .nilIface]) ∧ Gr0 w q os (.slice A os.length c) w' ∧ (hls os).Nodup ∧ (∀ z, z ∈ hls os ↔ X z) ∧ (∀ z ∈ hls os, faB vars z = true) ∧ os.length ≤ 1024) ∨
 (e = .returned (.tuple #[.slice none 0 0, .iface 49 (.int .i64 5)]) ∧ 1025 ≤ npV vars)
/-- The closure that compares. -/
theorem casClo_any (a z : List Fct) (A Z : Option Addr) (c zc B : Nat) (w : World) (h1 : FactsAt w w.heap.size A a) (h2 : FactsAt w w.heap.size Z z) (hb : w.cell? ⟨B, 0, none⟩ = some (.slice Z z.length zc)) (hB : B < w.heap.size) :
  Calls Tryz.prog 120 #[.slice A a.length c, .pointer (some ⟨B, 0, none⟩)] w fun e w' => e = .returned (.bool (decide (a = z))) ∧ Below w.heap.size w w' := by
 have K := Lib.hid (rcompare_any a z A Z c zc w h1 h2)
 obtain ⟨r, hr⟩ : ∃ r, r = cmpL a z := ⟨_, rfl⟩
 rw [← hr] at K
 have HR := Lib.hid (show (r == 0) = decide (a = z) by rw [Bool.eq_iff_iff, beq_iff_eq, decide_eq_true_eq, hr, cmpL_eq])
 clear h1 h2 hr
 go_enter Tryz.func120, Tryz.ntmps120
 go_wp2_with fail
 refine K.out.mono ?_
 rintro e w1 ⟨rfl, hg⟩
 have HB := Lib.hid hg.below
 clear hg
 go_wp2
 go_ret
 exact ⟨bool_ret (by rw [← HR.out]), HB.out⟩
end

section
open Go Go.RowKit
set_option linter.unusedVariables false

set_option maxHeartbeats 1000000 in
theorem if_cas (w : World) (A : Option Addr) (n c : Nat) (E0 : Nat → Value) (P : Nat → Bool) (B0 : Value) (hl : n ≤ 1000000) (h : 0 < n → ∃ b off, A = some ⟨b, off, none⟩ ∧ b < w.heap.size ∧ ∀ j, j < n → w.cell? ⟨b, off + j, none⟩ = some (E0 j))
  (hg : ∀ W, Below w.heap.size w W → ∀ j, j < n → Calls Tryz.prog 120 #[E0 j, B0] W fun e w' => e = .returned (.bool (P j)) ∧ Below W.heap.size W w') :
  Calls Tryz.prog 94 #[.slice A n c, .func (.func 120) #[] #[B0]] w fun e w' => (∃ i, e = .returned (.int .i64 i) ∧ decide (0 ≤ i) = anyB n P) ∧ Below w.heap.size w w' := by
 have HG := Lib.hid hg
 clear hg
 go_enter Tryz.func94, Tryz.ntmps94
 go_wp2
 go_loopw [8] (fun i wr => ∃ k : Nat, k ≤ n ∧ i = .int .i64 k ∧ Hid (anyB k P = false) ∧ Below w.heap.size w wr) (fun i _ => n - (intOf i).toNat)
 case atStart => exact ⟨0, by omega, rfl, Lib.hid rfl, Below.refl _ _⟩
 case round =>
  obtain ⟨k, hk, rfl, HB, hbel⟩ := hrel
  by_cases hlt : k < n
  ·obtain ⟨b, off, rfl, hb, hc⟩ := h (by omega)
   have hbz := hbel.size
   have d0 := (hbel.cell (p := ⟨b, off + k, none⟩) hb).trans (hc k hlt)
   have hcl := HG.out wr hbel k hlt
   clear hc
   cases e1 : P k
   ·rw [e1] at hcl
    go_wp2_with fail
    refine hcl.mono ?_
    rintro e w2 ⟨rfl, hb2⟩
    have HB2 := Lib.hid (show Below w.heap.size w w2 from hbel.trans (hb2.mono hbz))
    clear hcl hb2
    go_wp2
    go_roundw
    case rel => exact ⟨k + 1, by omega, by go_num, Lib.hid (by rw [anyB_succ, HB.out]; exact e1), HB2.out⟩
    case measure => simp [intOf]; omega
   ·rw [e1] at hcl
    have HT := Lib.hid (anyB_true.2 ⟨k, hlt, e1⟩)
    go_wp2_with fail
    refine hcl.mono ?_
    rintro e w2 ⟨rfl, hb2⟩
    have HB2 := Lib.hid (show Below w.heap.size w w2 from hbel.trans (hb2.mono hbz))
    clear hcl hb2
    go_wp2
    go_ret
    refine ⟨⟨_, rfl, ?_⟩, HB2.out⟩
    rw [HT.out]
    simp
  ·have HF := Lib.hid (show anyB n P = false by rw [show n = k by omega]; exact HB.out)
   go_wp2
   go_ret
   refine ⟨⟨_, rfl, ?_⟩, hbel⟩
   rw [HF.out]
   rfl
set_option maxHeartbeats 1000000 in
theorem cf_cas (w : World) (A : Option Addr) (n c : Nat) (E0 : Nat → Value) (P : Nat → Bool) (B0 : Value) (hl : n ≤ 1000000) (h : 0 < n → ∃ b off, A = some ⟨b, off, none⟩ ∧ b < w.heap.size ∧ ∀ j, j < n → w.cell? ⟨b, off + j, none⟩ = some (E0 j))
  (hg : ∀ W, Below w.heap.size w W → ∀ j, j < n → Calls Tryz.prog 120 #[E0 j, B0] W fun e w' => e = .returned (.bool (P j)) ∧ Below W.heap.size W w') :
  Calls Tryz.prog 62 #[.slice A n c, .func (.func 120) #[] #[B0]] w fun e w' => e = .returned (.bool (anyB n P)) ∧ Below w.heap.size w w' := by
 have k1 := Lib.hid (if_cas w A n c E0 P B0 hl h hg)
 clear h hg
 go_enter Tryz.func62, Tryz.ntmps62
 go_wp2_with fail
 refine k1.out.mono ?_
 rintro e w1 ⟨⟨i, rfl, hi⟩, hb1⟩
 have Hi := Lib.hid hi
 clear hi
 go_wp2
 go_ret
 exact ⟨bool_ret Hi.out, hb1⟩
end

end Go.Proofs.YtlkebhiaimijiaaGreatDoor

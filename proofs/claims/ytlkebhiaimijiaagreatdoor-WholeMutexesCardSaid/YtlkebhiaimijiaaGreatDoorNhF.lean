/- Texts laid together: VhF, VhI. -/
import Derived.Test.YtlkebhiaimijiaaGreatDoorNhA
import Derived.Test.YtlkebhiaimijiaaGreatDoorNgE
import Derived.Test.YtlkebhiaimijiaaGreatDoorVbD
import Derived.Test.YtlkebhiaimijiaaGreatDoorNgL
import Derived.Test.YtlkebhiaimijiaaGreatDoorNhC
import Derived.Test.YtlkebhiaimijiaaGreatDoorNhD
import Derived.Test.YtlkebhiaimijiaaGreatDoorNgH
import Derived.Test.YtlkebhiaimijiaaGreatDoorNgM
namespace Go.Proofs.YtlkebhiaimijiaaGreatDoor
set_option linter.unusedSimpArgs false
set_option linter.unusedVariables false
section
open Go Go.RowKit
set_option linter.unusedVariables false

/-- Facts under way. -/
structure TaI (w : World) (l : List Fct) (FA : Option Addr) (FC : Nat) (wr : World) : Prop where
 bel : Below w.heap.size w wr
 own : wr.ownsRow w.heap.size 68 2 (.slice FA l.length FC) l.length (fcs l)
theorem TaI.push {w wr w1 w2 : World} {l : List Fct} {FA FA' : Option Addr} {FC FC' : Nat} {x : Fct} (h : TaI w l FA FC wr) (u : Below wr.heap.size wr w1)
  (ho : w2.ownsRow w.heap.size 68 2 (.slice FA' (l.length + 1) FC') (l.length + 1) (fcs l ++ [.int .i64 x.1, .int .i64 x.2])) (hg : w1.grownBy w2 (Value.slice FA l.length FC).ownBlock) :
  TaI w (l ++ [x]) FA' FC' w2 := by
 have o1 := own_below h.own u
 have b1 := h.bel.trans (u.mono h.bel.size)
 refine ⟨b1.grown hg b1.size (fun b hb => (o1.lt b hb).1), ?_⟩
 rw [List.length_append, fcs_app]
 exact ho

set_option maxRecDepth 20000 in
set_option maxHeartbeats 16000000 in
theorem tall_any {B X fc rc g : Nat} {t : Tsk} {p : Lies} {fa ra : Option Addr} {rb : Nat → Nat} {M : Nat → Nat → Bool} (hd : ∀ k, k < t.vars.length → 1 ≤ nth t.vars k ∧ nth t.vars k ≤ 64) (hn : t.vars.length ≤ 64) (w : World) (h : TblAt w B X t p fa fc ra rc g rb M) :
  Calls Tryz.prog 60 #[.pointer (some ⟨X, 0, none⟩)] w fun e w' => (∃ (A : Option Addr) (c : Nat), e = .returned (.slice A (faL t.vars t.vars.length).length c) ∧ w'.ownsRow w.heap.size 68 2 (.slice A (faL t.vars t.vars.length).length c) (faL t.vars t.vars.length).length (fcs (faL t.vars t.vars.length))) ∧ Below w.heap.size w w' := by
 obtain ⟨inf, hi, iz0, iz1, iz2⟩ := info_parts ninfF
 have HT := Lib.hid h
 have HD := Lib.hid hd
 have HN := Lib.hid hn
 have x0 := h.box.cell 0 (.slice p.av t.vars.length p.cv) rfl
 have hXl := h.box.lt
 have hI0 := Lib.hid (show TaI w [] none 0 w from ⟨Below.refl _ _, World.ownsRow_nil _ _ _ _⟩)
 clear h hd
 go_enter Tryz.func60, Tryz.ntmps60
 go_wp2_with fail
 go_loopw [3, 13] (fun v3 v13 wr => ∃ (i : Nat) (FA : Option Addr) (FC : Nat) (l : List Fct), v3 = .slice FA l.length FC ∧ v13 = .int .i64 i ∧ i ≤ t.vars.length ∧ l.length ≤ 64 * i ∧ Hid (l = faL t.vars i) ∧ Hid (TaI w l FA FC wr)) (fun _ v13 _ => t.vars.length - (intOf v13).toNat)
 case atStart => exact ⟨0, none, 0, [], rfl, rfl, by omega, by simp, Lib.hid rfl, hI0⟩
 case round =>
  clear hI0 x0
  obtain ⟨i, FA, FC, l, rfl, rfl, hi2, hll, HLL, HI⟩ := hrel
  obtain ⟨wt, rfl⟩ : ∃ wt : World, wt = wr := ⟨_, rfl⟩
  have hwt := HI.out.bel.size
  by_cases hlt : i < t.vars.length
  ·have hv := HD.out i hlt
   obtain ⟨vb, vo, hva, hvb, hvc⟩ := (HT.out.up HI.out.bel).tsk.vars.at_ hlt
   have d1 := hvc i hlt
   obtain ⟨n, hn2⟩ : ∃ n : Nat, nth t.vars i = n := ⟨(nth t.vars i).toNat, by omega⟩
   rw [hn2] at d1 hv
   have HV := Lib.hid hn2
   have hn64 : n ≤ 64 := by omega
   have hBt := (HT.out.up HI.out.bel).le
   rw [hva]
   clear hvc hn2 hva
   go_wp2_with fail
   go_loopw [3, 19] (fun v3 v19 wr => ∃ (x : Nat) (FA : Option Addr) (FC : Nat) (l : List Fct), v3 = .slice FA l.length FC ∧ v19 = .int .i64 x ∧ x ≤ n ∧ l.length ≤ 64 * i + x ∧ Hid (l = faL t.vars i ++ faV i x) ∧ Hid (TaI w l FA FC wr)) (fun _ v19 _ => n - (intOf v19).toNat)
   case atStart => exact ⟨0, FA, FC, l, rfl, rfl, by omega, by omega, Lib.hid (by rw [HLL.out]; simp [faV]), HI⟩
   case round =>
    clear HI HLL hll d1
    obtain ⟨x, FA2, FC2, l2, rfl, rfl, hx, hl2, HL2, HI2⟩ := hrel
    obtain ⟨wu, rfl⟩ : ∃ wu : World, wu = wr := ⟨_, rfl⟩
    have hwu := HI2.out.bel.size
    by_cases hlx : x < n
    ·have hl9 : l2.length ≤ 100000 := by omega
     go_wp2_with (at_builtin; refine wpList_append_src (by rfl) _ _ 23 (by rfl) w.heap.size 68 inf (.agg #[.int .i64 0, .int .i64 0]) 2 16 nundF hi iz0 iz1 iz2 rfl (by decide) (.slice FA2 l2.length FC2) l2.length (fcs l2) (by rfl) (by exact HI2.out.own.alloc _) (some ⟨wu.heap.size, 0, none⟩) 1 1 [.int .i64 i, .int .i64 x] (by rfl) (src_of (heap_alloc_new wu _) rfl (by intro u hu; simp at hu; rcases hu with rfl | rfl <;> rfl)) (by unfold maxLen; omega) (by omega) (by first | omega | (simp; done) | (simp; omega)) ?_; intro v9 w9 hown9 hgrow9 hat9; obtain ⟨A9, c9, rfl⟩ := own_shape hown9; have HI9 := Lib.hid (HI2.out.push (x := ((i : Int), (x : Int))) ((Below.refl _ _).alloc (Nat.le_refl _) _) hown9 hgrow9); clear hown9 hgrow9 hat9)
     go_roundw
     case rel => exact ⟨x + 1, A9, c9, l2 ++ [((i : Int), (x : Int))], by rw [List.length_append]; rfl, by go_num, by omega, by rw [List.length_append]; show l2.length + 1 ≤ _; omega, Lib.hid (by rw [HL2.out, faV_succ, List.append_assoc]), HI9⟩
     case measure => simp [intOf]; omega
    ·have hxn : x = n := by omega
     have HLN := Lib.hid (show l2 = faL t.vars (i + 1) by rw [HL2.out, faL_succ, HV.out, hxn]; rfl)
     clear hxn
     go_wp2
     go_roundw
     case rel => exact ⟨i + 1, FA2, FC2, l2, rfl, by go_num, by omega, by omega, HLN, HI2⟩
     case measure => simp [intOf]; omega
  ·go_wp2
   go_ret
   have e : i = t.vars.length := by omega
   subst e
   have hl := HLL.out
   subst hl
   exact ⟨⟨FA, FC, rfl, HI.out.own⟩, HI.out.bel⟩
end

section
open Go Go.RowKit
set_option linter.unusedVariables false

/-- Open sets under way. -/
structure OpI (w : World) (hs : List Hd) (v : Value) (ps : List (List Fct)) (wr : World) : Prop where
 gr : Gr1 w hs v wr
 eq : hls hs = ps
 cap : ∀ h ∈ hs, h.l.length ≤ h.c
section
variable {w wr w1 : World} {hs : List Hd} {v : Value} {ps : List (List Fct)}
theorem OpI.up (h : OpI w hs v ps wr) (k : Below wr.heap.size wr w1) : OpI w hs v ps w1 := ⟨h.gr.up k, h.eq, h.cap⟩
theorem Gr1.low {W : World} {O : Value} (h : Gr1 w hs O wr) (k : Below W.heap.size W w) : Gr1 W hs O wr :=
 ⟨k.trans (h.bel.mono k.size), own_base h.own k.size, fun x hx => (h.fac x hx).sub fun b _ hb => hb.imp (fun h1 => Nat.lt_of_lt_of_le h1 k.size) id⟩
theorem OpI.low {W : World} (h : OpI w hs v ps wr) (k : Below W.heap.size W w) : OpI W hs v ps wr := ⟨h.gr.low k, h.eq, h.cap⟩
end
/-- One set of one fact more. -/
theorem OpI.one {w wr w4 : World} {hs : List Hd} {A A4 : Option Addr} {C c4 : Nat} {ps : List (List Fct)} {x : Fct} (h : OpI w hs (.slice A hs.length C) ps wr)
  (ho : w4.ownsRow w.heap.size 23 1 (.slice A4 (hs.length + 1) c4) (hs.length + 1) (hs.map Hd.v ++ [.slice (some ⟨wr.heap.size, 0, none⟩) 1 1]))
  (hg : ((wr.alloc (.cells #[.int .i64 x.1, .int .i64 x.2] 68)).alloc (.cells #[.slice (some ⟨wr.heap.size, 0, none⟩) 1 1] 23)).grownBy w4 (Value.slice A hs.length C).ownBlock)
  (hat : (Value.slice A4 (hs.length + 1) c4).ownBlock = (Value.slice A hs.length C).ownBlock ∨ (Value.slice A4 (hs.length + 1) c4).ownBlock = some ((wr.alloc (.cells #[.int .i64 x.1, .int .i64 x.2] 68)).alloc (.cells #[.slice (some ⟨wr.heap.size, 0, none⟩) 1 1] 23)).heap.size) :
  OpI w (hs ++ [(⟨some ⟨wr.heap.size, 0, none⟩, 1, [x]⟩ : Hd)]) (.slice A4 (hs.length + 1) c4) (ps ++ [[x]]) w4 := by
 have hz := h.gr.bel.size
 have hu : Below wr.heap.size wr ((wr.alloc (.cells #[.int .i64 x.1, .int .i64 x.2] 68)).alloc (.cells #[.slice (some ⟨wr.heap.size, 0, none⟩) 1 1] 23)) := ((Below.refl _ _).alloc (Nat.le_refl _) _).alloc (by simp) _
 refine ⟨(h.gr.up hu).push ⟨some ⟨wr.heap.size, 0, none⟩, 1, [x]⟩ (fac_one ((BxI.new wr 68 #[.int .i64 x.1, .int .i64 x.2]).up ((Below.refl _ _).alloc (Nat.le_refl _) _)) (fun hb => by
  rcases hb with hb | hb
  ·omega
  ·have := (h.gr.own.lt _ hb).2; omega)) ho hg hat, by rw [hls_snoc, h.eq], fun y hy => ?_⟩
 rcases List.mem_append.1 hy with hy | hy
 ·exact h.cap y hy
 ·simp at hy; subst hy; exact Nat.le_refl 1
theorem fac_two {w : World} {H : Nat} {v x v' x' : Int} {bad : Nat → Prop} (h : BxI w H 68 #[.int .i64 v, .int .i64 x, .int .i64 v', .int .i64 x']) (hb : ¬ bad H) : Fac w bad (some ⟨H, 0, none⟩) [(v, x), (v', x')] :=
 ⟨by simp, fun _ => ⟨H, 0, rfl, h.lt, hb, fun k hk => by
  have hk : k < 2 := by simpa using hk
  rcases k with _ | _ | k
  ·exact ⟨h.cell 0 _ rfl, h.cell 1 _ rfl⟩
  ·exact ⟨h.cell 2 _ rfl, h.cell 3 _ rfl⟩
  ·omega⟩⟩
/-- One set of two facts more. -/
theorem OpI.two {w wr w4 : World} {hs : List Hd} {A A4 : Option Addr} {C c4 : Nat} {ps : List (List Fct)} {x y : Fct} (h : OpI w hs (.slice A hs.length C) ps wr)
  (ho : w4.ownsRow w.heap.size 23 1 (.slice A4 (hs.length + 1) c4) (hs.length + 1) (hs.map Hd.v ++ [.slice (some ⟨wr.heap.size, 0, none⟩) 2 2]))
  (hg : ((wr.alloc (.cells #[.int .i64 x.1, .int .i64 x.2, .int .i64 y.1, .int .i64 y.2] 68)).alloc (.cells #[.slice (some ⟨wr.heap.size, 0, none⟩) 2 2] 23)).grownBy w4 (Value.slice A hs.length C).ownBlock)
  (hat : (Value.slice A4 (hs.length + 1) c4).ownBlock = (Value.slice A hs.length C).ownBlock ∨ (Value.slice A4 (hs.length + 1) c4).ownBlock = some ((wr.alloc (.cells #[.int .i64 x.1, .int .i64 x.2, .int .i64 y.1, .int .i64 y.2] 68)).alloc (.cells #[.slice (some ⟨wr.heap.size, 0, none⟩) 2 2] 23)).heap.size) :
  OpI w (hs ++ [(⟨some ⟨wr.heap.size, 0, none⟩, 2, [x, y]⟩ : Hd)]) (.slice A4 (hs.length + 1) c4) (ps ++ [[x, y]]) w4 := by
 have hz := h.gr.bel.size
 have hu : Below wr.heap.size wr ((wr.alloc (.cells #[.int .i64 x.1, .int .i64 x.2, .int .i64 y.1, .int .i64 y.2] 68)).alloc (.cells #[.slice (some ⟨wr.heap.size, 0, none⟩) 2 2] 23)) := ((Below.refl _ _).alloc (Nat.le_refl _) _).alloc (by simp) _
 refine ⟨(h.gr.up hu).push ⟨some ⟨wr.heap.size, 0, none⟩, 2, [x, y]⟩ (fac_two ((BxI.new wr 68 #[.int .i64 x.1, .int .i64 x.2, .int .i64 y.1, .int .i64 y.2]).up ((Below.refl _ _).alloc (Nat.le_refl _) _)) (fun hb => by
  rcases hb with hb | hb
  ·omega
  ·have := (h.gr.own.lt _ hb).2; omega)) ho hg hat, by rw [hls_snoc, h.eq], fun y hy => ?_⟩
 rcases List.mem_append.1 hy with hy | hy
 ·exact h.cap y hy
 ·simp at hy; subst hy; exact Nat.le_refl 2
theorem opI_succ {R : Fct → Fct → Bool} {l : List Fct} {i j : Nat} (h : i + 1 + j < l.length) : opI R (fcA2 l i) ((l.drop (i + 1)).take (j + 1)) = opI R (fcA2 l i) ((l.drop (i + 1)).take j) ++ (if opG R (fcA2 l i) (fcA2 l (i + 1 + j)) = true then [[fcA2 l i, fcA2 l (i + 1 + j)]] else []) := by
 have hd : j < (l.drop (i + 1)).length := by rw [List.length_drop]; omega
 have e : (l.drop (i + 1)).take (j + 1) = (l.drop (i + 1)).take j ++ [fcA2 l (i + 1 + j)] := by
  rw [List.take_succ_eq_append_getElem hd, List.getElem_drop, fct_get h]; rfl
 rw [e]
 unfold opI
 rw [List.filter_append, List.map_append]
 by_cases e2 : opG R (fcA2 l i) (fcA2 l (i + 1 + j)) = true
 ·rw [if_pos e2]; simp [e2]
 ·rw [if_neg e2]; simp [e2]
theorem opP_len {R : Fct → Fct → Bool} {l m : List Fct} {i : Nat} (hi : i ≤ l.length) (hm : m.length ≤ l.length) (hl : l.length ≤ 600) {a : Fct} : (op1 R l ++ op2 R l i ++ opI R a m).length ≤ 400000 := by
 have h1 := op1_len (R := R) (l := l)
 have h2 := op2_len (R := R) (l := l) i
 have h3 : (opI R a m).length ≤ m.length := by unfold opI; rw [List.length_map]; exact List.length_filter_le _ _
 have h4 : i * l.length ≤ 600 * 600 := Nat.mul_le_mul (by omega) hl
 rw [List.length_append, List.length_append]
 omega
theorem op1_succ {R : Fct → Fct → Bool} {l : List Fct} {i : Nat} (h : i < l.length) : op1 R (l.take (i + 1)) = op1 R (l.take i) ++ (if R (fcA2 l i) (fcA2 l i) = true then [] else [[fcA2 l i]]) := by
 rw [fct_take h]
 unfold op1 fcA2
 rw [List.filter_append, List.map_append]
 by_cases e : R (fv l i, fx l i) (fv l i, fx l i) = true
 ·rw [if_pos e]; simp [e]
 ·rw [if_neg e]; simp [e]

set_option maxRecDepth 20000 in
set_option maxHeartbeats 32000000 in
theorem topen_any {B X fc rc g : Nat} {t : Tsk} {q : Lies} {fa ra : Option Addr} {rb : Nat → Nat} {M : Nat → Nat → Bool} (hd : ∀ k, k < t.vars.length → 1 ≤ nth t.vars k ∧ nth t.vars k ≤ 64) (hn : t.vars.length ≤ 64) (hF : (faL t.vars t.vars.length).length ≤ 600) (w : World) (h : TblAt w B X t q fa fc ra rc g rb M) :
  Calls Tryz.prog 27 #[.pointer (some ⟨X, 0, none⟩)] w fun e w' => (∃ (A : Option Addr) (c : Nat) (hs : List Hd), e = .returned (.slice A hs.length c) ∧ OpI w hs (.slice A hs.length c) (opL (rF t.vars M) (faL t.vars t.vars.length)) w') ∧ Below w.heap.size w w' := by
 obtain ⟨inf, hinf, iz0, iz1, iz2⟩ := info_parts ninfL
 have KA := Lib.hid (tall_any hd hn w h)
 have HIS := Lib.hid (fun (a b : Fct) (ha : IsF t.vars a) (hb : IsF t.vars b) W (k : Below w.heap.size w W) => tis_any hd hn a b ha hb W (h.up k))
 obtain ⟨l, hl⟩ : ∃ l, l = faL t.vars t.vars.length := ⟨_, rfl⟩
 have HLI := Lib.hid (show ∀ k, k < l.length → IsF t.vars (fcA2 l k) from fun k hk => mem_faL.1 (by rw [← hl]; exact fct_mem hk))
 rw [← hl] at KA hF
 rw [← hl]
 have HLE := Lib.hid hl
 clear h hd hl
 go_enter Tryz.func27, Tryz.ntmps27
 go_wp2_with fail
 refine KA.out.mono ?_
 rintro e w1 ⟨⟨FA, c, rfl, ho⟩, hb1⟩
 have hcap := own_cap ho
 have HB1 := Lib.hid hb1
 have HFA := Lib.hid (show FactsAt w1 w1.heap.size FA l by
  obtain ⟨A', c', e, hf⟩ := own_facV (bad := fun _ => False) ho (by omega) (fun _ _ h => h)
  simp only [Value.slice.injEq] at e
  obtain ⟨rfl, _, rfl⟩ := e
  exact hf.at_)
 have HI0 := Lib.hid (show OpI w1 [] (.slice none 0 0) [] w1 from ⟨Gr1.nil (Below.refl _ _), rfl, fun h hh => by cases hh⟩)
 clear ho hb1
 go_wp2_with fail
 go_loopw [3, 15] (fun v3 v15 wr => ∃ (i : Nat) (A : Option Addr) (C : Nat) (hs : List Hd), v3 = .slice A hs.length C ∧ v15 = .int .i64 i ∧ i ≤ l.length ∧ hs.length ≤ i ∧ Hid (OpI w1 hs (.slice A hs.length C) (op1 (rF t.vars M) (l.take i)) wr)) (fun _ v15 _ => l.length - (intOf v15).toNat)
 case atStart => exact ⟨0, none, 0, [], rfl, rfl, by omega, by simp, HI0⟩
 case round =>
  clear HI0
  obtain ⟨i, A, C, hs, rfl, rfl, hi, hhs, HI⟩ := hrel
  obtain ⟨wt, rfl⟩ : ∃ wt : World, wt = wr := ⟨_, rfl⟩
  have hwt1 := HI.out.gr.bel.size
  have hw1 := HB1.out.size
  have hwt : w.heap.size ≤ wt.heap.size := by omega
  by_cases hlt : i < l.length
  ·obtain ⟨fb, fo, rfl, hfb, hfc⟩ := HFA.out.at_ hlt
   have d0 := (HI.out.gr.bel.cell (p := ⟨fb, _, none⟩) hfb).trans (hfc i hlt).1
   have d1 := (HI.out.gr.bel.cell (p := ⟨fb, _, none⟩) hfb).trans (hfc i hlt).2
   have hfbt : fb < wt.heap.size := by omega
   have HS := Lib.hid (op1_succ (R := rF t.vars M) hlt)
   have hF1 := HLI.out i hlt
   have HBt := Lib.hid (HB1.out.trans (HI.out.gr.bel.mono hw1))
   obtain ⟨W5, hW5⟩ : ∃ W5, W5 = wt.alloc (.cells #[.int .i64 (fv l i), .int .i64 (fx l i)] 68) := ⟨_, rfl⟩
   have hb5 : Below wt.heap.size wt W5 := by rw [hW5]; exact (Below.refl _ _).alloc (Nat.le_refl _) _
   have KI := Lib.hid (show Calls Tryz.prog 52 #[.pointer (some ⟨X, 0, none⟩), .agg #[.int .i64 (fv l i), .int .i64 (fx l i)], .agg #[.int .i64 (fv l i), .int .i64 (fx l i)]] W5 fun e w' => e = .returned (.bool (rF t.vars M (fcA2 l i) (fcA2 l i))) ∧ Below W5.heap.size W5 w' from HIS.out (fcA2 l i) (fcA2 l i) hF1 hF1 W5 (HBt.out.trans (hb5.mono hwt)))
   obtain ⟨v, hv⟩ : ∃ v, v = fv l i := ⟨_, rfl⟩
   obtain ⟨x, hx⟩ : ∃ x, x = fx l i := ⟨_, rfl⟩
   rw [← hv, ← hx] at KI
   rw [← hv] at d0
   rw [← hx] at d1
   rw [← hv, ← hx] at hW5
   obtain ⟨r, hr⟩ : ∃ r, r = rF t.vars M (fcA2 l i) (fcA2 l i) := ⟨_, rfl⟩
   rw [← hr] at KI HS
   have HVX := Lib.hid (show fcA2 l i = (v, x) by unfold fcA2; rw [hv, hx])
   have HX5 := Lib.hid (show BxI W5 wt.heap.size 68 #[.int .i64 v, .int .i64 x] by rw [hW5]; exact BxI.new _ _ _)
   have HB5 := Lib.hid hb5
   clear hb5 hv hx hr hF1 HBt hfc
   go_wp2_with fail
   rw [← hW5]
   have HW5 := Lib.hid hW5
   clear hW5 d0 d1
   refine KI.out.mono ?_
   rintro e w6 ⟨rfl, hb6⟩
   have HI6 := Lib.hid ((HI.out.up HB5.out).up hb6)
   have HX6 := Lib.hid (HX5.out.up hb6)
   clear hb6 KI
   have f0 := HX6.out.cell 0 (.int .i64 v) rfl
   have f1 := HX6.out.cell 1 (.int .i64 x) rfl
   have hfl := HX6.out.lt
   cases r
   ·have hh9 : hs.length ≤ 100000 := by omega
    go_wp2_with (at_builtin; refine wpList_append_src (by rfl) _ _ 77 (by rfl) w1.heap.size 23 inf (.slice none 0 0) 1 24 nundL hinf iz0 iz1 iz2 rfl (by decide) (.slice A hs.length C) hs.length (hs.map Hd.v) (by rfl) (by exact (HI6.out.gr.own.alloc _).alloc _) (some ⟨w6.heap.size + 1, 0, none⟩) 1 1 [.slice (some ⟨w6.heap.size, 0, none⟩) 1 1] (by rfl) (src_of (BxI.new2 w6 _ 23 _) rfl (by intro u hu; simp at hu; subst hu; rfl)) (by unfold maxLen; omega) (by omega) (by first | omega | (simp; done) | (simp; omega)) ?_; intro v4 w4 hown4 hgrow4 hat4; obtain ⟨A4, c4, rfl⟩ := own_shape hown4; have HO4 := Lib.hid hown4; have HG4 := Lib.hid hgrow4; have HA4 := Lib.hid hat4; clear hown4 hgrow4 hat4)
    have HN := Lib.hid (HI6.out.one (x := (v, x)) HO4.out HG4.out HA4.out)
    have Hlen : (hs ++ [(⟨some ⟨w6.heap.size, 0, none⟩, 1, [(v, x)]⟩ : Hd)]).length = hs.length + 1 := by simp
    have HI9 := Lib.hid (show OpI w1 (hs ++ [(⟨some ⟨w6.heap.size, 0, none⟩, 1, [(v, x)]⟩ : Hd)]) (.slice A4 (hs.length + 1) c4) (op1 (rF t.vars M) (l.take (i + 1))) w4 from by
     rw [HS.out, HVX.out]; exact HN.out)
    go_roundw
    case rel => exact ⟨i + 1, A4, c4, hs ++ [(⟨some ⟨w6.heap.size, 0, none⟩, 1, [(v, x)]⟩ : Hd)], by rw [Hlen], by go_num, by omega, by rw [Hlen]; omega, Lib.hid (by rw [Hlen]; exact HI9.out)⟩
    case measure => simp [intOf]; omega
   ·have HI9 := Lib.hid (show OpI w1 hs (.slice A hs.length C) (op1 (rF t.vars M) (l.take (i + 1))) w6 from by rw [HS.out]; simpa using HI6.out)
    go_wp2
    go_roundw
    case rel => exact ⟨i + 1, A, C, hs, rfl, by go_num, by omega, by omega, HI9⟩
    case measure => simp [intOf]; omega
  ·have HJ0 := Lib.hid (show OpI w1 hs (.slice A hs.length C) (op1 (rF t.vars M) l ++ op2 (rF t.vars M) l 0) wt from by
    have h := HI.out
    rw [List.take_of_length_le (by omega)] at h
    unfold op2
    rw [List.append_nil]
    exact h)
   clear HI
   go_wp2_with fail
   clear hi hhs hwt1 hwt hlt
   go_loopw [3, 32] (fun v3 v32 wr => ∃ (i : Nat) (A : Option Addr) (C : Nat) (hs : List Hd), v3 = .slice A hs.length C ∧ v32 = .int .i64 i ∧ i ≤ l.length ∧ Hid (OpI w1 hs (.slice A hs.length C) (op1 (rF t.vars M) l ++ op2 (rF t.vars M) l i) wr)) (fun _ v32 _ => l.length - (intOf v32).toNat)
   case atStart => exact ⟨0, A, C, hs, rfl, rfl, by omega, HJ0⟩
   case round =>
    clear HJ0
    obtain ⟨i, A, C, hs, rfl, rfl, hi, HI⟩ := hrel
    obtain ⟨wt, rfl⟩ : ∃ wt : World, wt = wr := ⟨_, rfl⟩
    have hwt1 := HI.out.gr.bel.size
    have hwt : w.heap.size ≤ wt.heap.size := by omega
    by_cases hlt : i < l.length
    ·obtain ⟨fb, fo, rfl, hfb, hfc⟩ := HFA.out.at_ hlt
     have d0 := (HI.out.gr.bel.cell (p := ⟨fb, _, none⟩) hfb).trans (hfc i hlt).1
     have d1 := (HI.out.gr.bel.cell (p := ⟨fb, _, none⟩) hfb).trans (hfc i hlt).2
     have hfbt : fb < wt.heap.size := by omega
     have HFC := Lib.hid hfc
     have hF1 := HLI.out i hlt
     obtain ⟨v, hv⟩ : ∃ v, v = fv l i := ⟨_, rfl⟩
     obtain ⟨x, hx⟩ : ∃ x, x = fx l i := ⟨_, rfl⟩
     rw [← hv] at d0
     rw [← hx] at d1
     have HVX := Lib.hid (show fcA2 l i = (v, x) by unfold fcA2; rw [hv, hx])
     have HA1 := Lib.hid (show IsF t.vars (v, x) by rw [← HVX.out]; exact hF1)
     obtain ⟨W5, hW5⟩ : ∃ W5, W5 = wt.alloc (.cells #[.int .i64 v, .int .i64 x] 68) := ⟨_, rfl⟩
     have HB5 := Lib.hid (show Below wt.heap.size wt W5 by rw [hW5]; exact (Below.refl _ _).alloc (Nat.le_refl _) _)
     have HX5 := Lib.hid (show BxI W5 wt.heap.size 68 #[.int .i64 v, .int .i64 x] by rw [hW5]; exact BxI.new _ _ _)
     have HI5 := Lib.hid (HI.out.up HB5.out)
     have hi1 : (i : Int) + 1 ≤ l.length := by omega
     clear hv hx hF1 hfc
     go_upto_region 12 with fail
     rw [← hW5]
     have HW5 := Lib.hid hW5
     clear hW5 d0 d1
     go_cut [40, 41, 42] (fun v40 v41 v42 wx => ∃ (fo2 c2 : Nat), v40 = .slice (some ⟨fb, fo2, none⟩) (l.length - (i + 1)) c2 ∧ v41 = .int .i64 ((l.length - (i + 1) : Nat) : Int) ∧ v42 = .int .i64 0 ∧ Hid (i + 1 < l.length → fo2 = fo + (i + 1) * 2) ∧ wx = W5)
     case first =>
      by_cases hce : c = i + 1
      ·go_wp2
       go_meet
       exact ⟨_, _, rfl, rfl, rfl, Lib.hid (fun h => by omega), rfl⟩
      ·go_wp2
       go_meet
       exact ⟨_, _, rfl, rfl, rfl, Lib.hid (fun h => by omega), rfl⟩
     case rest =>
      obtain ⟨fo2, c2, rfl, rfl, rfl, HFO, rfl⟩ := hcut
      obtain ⟨W5, rfl⟩ : ∃ W5, W5 = wc := ⟨_, rfl⟩
      obtain ⟨n2, hn2⟩ : ∃ n2, n2 = l.length - (i + 1) := ⟨_, rfl⟩
      rw [← hn2]
      have HN2 := Lib.hid hn2
      have hn2b : n2 ≤ 600 := by omega
      have HW5B := HB5.out.size
      have HJ0 := Lib.hid (show OpI w1 hs (.slice A hs.length C) (op1 (rF t.vars M) l ++ op2 (rF t.vars M) l i ++ opI (rF t.vars M) (fcA2 l i) ((l.drop (i + 1)).take 0)) W5 from by
       rw [List.take_zero]
       have h := HI5.out
       unfold opI
       rw [List.filter_nil, List.map_nil, List.append_nil]
       exact h)
      clear hn2 HI hwt1
      go_wp2_with fail
      go_loopw [3, 42] (fun v3 v42 wr => ∃ (j : Nat) (A : Option Addr) (C : Nat) (hs : List Hd), v3 = .slice A hs.length C ∧ v42 = .int .i64 j ∧ j ≤ n2 ∧ Hid (OpI w1 hs (.slice A hs.length C) (op1 (rF t.vars M) l ++ op2 (rF t.vars M) l i ++ opI (rF t.vars M) (fcA2 l i) ((l.drop (i + 1)).take j)) wr) ∧ Hid (BxI wr wt.heap.size 68 #[.int .i64 v, .int .i64 x])) (fun _ v42 _ => n2 - (intOf v42).toNat)
      case atStart => exact ⟨0, A, C, hs, rfl, rfl, by omega, HJ0, HX5⟩
      case round =>
       clear HJ0 HI5 HX5
       obtain ⟨j, A, C, hs, rfl, rfl, hj, HI, HX⟩ := hrel
       obtain ⟨wu, rfl⟩ : ∃ wu : World, wu = wr := ⟨_, rfl⟩
       have hwu1 := HI.out.gr.bel.size
       have hwu : w.heap.size ≤ wu.heap.size := by omega
       have hxl := HX.out.lt
       by_cases hlj : j < n2
       ·have hij : i + 1 + j < l.length := by have := HN2.out; omega
        have hfu : fb < wu.heap.size := by omega
        have g0 := (HI.out.gr.bel.cell (p := ⟨fb, _, none⟩) hfb).trans (HFC.out (i + 1 + j) hij).1
        have g1 := (HI.out.gr.bel.cell (p := ⟨fb, _, none⟩) hfb).trans (HFC.out (i + 1 + j) hij).2
        rw [show fo + (i + 1 + j) * 2 = fo2 + j * 2 by have := HFO.out (by omega); omega] at g0 g1
        have HSJ := Lib.hid (opI_succ (R := rF t.vars M) hij)
        have hF2 := HLI.out (i + 1 + j) hij
        obtain ⟨y, hy⟩ : ∃ y, y = fv l (i + 1 + j) := ⟨_, rfl⟩
        obtain ⟨z, hz⟩ : ∃ z, z = fx l (i + 1 + j) := ⟨_, rfl⟩
        rw [← hy] at g0
        rw [← hz] at g1
        have hyz : fcA2 l (i + 1 + j) = (y, z) := by unfold fcA2; rw [hy, hz]
        rw [hyz] at HSJ hF2
        have HA2 := Lib.hid hF2
        have f0 := HX.out.cell 0 (.int .i64 v) rfl
        have f1 := HX.out.cell 1 (.int .i64 x) rfl
        have hlen : hs.length ≤ 400000 := by
         have h1 : (hls hs).length = hs.length := by unfold hls; rw [List.length_map]
         rw [← h1, HI.out.eq]
         exact opP_len hi (by rw [List.length_take, List.length_drop]; omega) hF
        obtain ⟨W6, hW6⟩ : ∃ W6, W6 = wu.alloc (.cells #[.int .i64 y, .int .i64 z] 68) := ⟨_, rfl⟩
        have HB6 := Lib.hid (show Below wu.heap.size wu W6 by rw [hW6]; exact (Below.refl _ _).alloc (Nat.le_refl _) _)
        have HXb := Lib.hid (show BxI W6 wu.heap.size 68 #[.int .i64 y, .int .i64 z] by rw [hW6]; exact BxI.new _ _ _)
        have HXa := Lib.hid (HX.out.up HB6.out)
        have HI6 := Lib.hid (HI.out.up HB6.out)
        have HBw := Lib.hid (HB1.out.trans (HI6.out.gr.bel.mono hw1))
        have K1 := Lib.hid (HIS.out (v, x) (v, x) HA1.out HA1.out W6 HBw.out)
        have K2 := Lib.hid (fun W (k : Below W6.heap.size W6 W) => HIS.out (y, z) (y, z) HA2.out HA2.out W (HBw.out.trans (k.mono HBw.out.size)))
        have K3 := Lib.hid (fun W (k : Below W6.heap.size W6 W) => HIS.out (v, x) (y, z) HA1.out HA2.out W (HBw.out.trans (k.mono HBw.out.size)))
        have hR : ∀ a b : Fct, M (numF t.vars a) (numF t.vars b) = rF t.vars M a b := fun _ _ => rfl
        simp only [hR] at K1 K2 K3
        obtain ⟨r1, hr1⟩ : ∃ r1, r1 = rF t.vars M (v, x) (v, x) := ⟨_, rfl⟩
        obtain ⟨r2, hr2⟩ : ∃ r2, r2 = rF t.vars M (y, z) (y, z) := ⟨_, rfl⟩
        obtain ⟨r3, hr3⟩ : ∃ r3, r3 = rF t.vars M (v, x) (y, z) := ⟨_, rfl⟩
        rw [← hr1] at K1
        rw [← hr2] at K2
        rw [← hr3] at K3
        have HOG := Lib.hid (show opG (rF t.vars M) (fcA2 l i) (y, z) = (!(v == y) && r1 && r2 && !r3) by rw [HVX.out, hr1, hr2, hr3]; rfl)
        clear hy hz hyz hF2 hr1 hr2 hr3 hR hij
        by_cases hvy : v = y
        ·have en : (v != y) = false := by simp [hvy]
         have HEQ := Lib.hid hvy
         clear hvy
         have HN9 := Lib.hid (show OpI w1 hs (.slice A hs.length C) (op1 (rF t.vars M) l ++ op2 (rF t.vars M) l i ++ opI (rF t.vars M) (fcA2 l i) ((l.drop (i + 1)).take (j + 1))) W6 from by
          rw [HSJ.out, if_neg (by rw [HOG.out]; simp [HEQ.out]), List.append_nil]; exact HI6.out)
         have HW6 := Lib.hid hW6
         clear hW6
         go_wp2
         go_roundw
         case rel => exact ⟨j + 1, A, C, hs, rfl, by go_num, by omega, Lib.hid (by rw [← HW6.out]; exact HN9.out), Lib.hid (by rw [← HW6.out]; exact HXa.out)⟩
         case measure => simp [intOf]; omega
        ·have en : (v != y) = true := by simp [hvy]
         have HEQ := Lib.hid (show (v == y) = false by simp [hvy])
         clear hvy
         go_wp2_with fail
         rw [← hW6]
         have HW6 := Lib.hid hW6
         clear hW6 f0 f1 g0 g1
         refine K1.out.mono ?_
         rintro e w7 ⟨rfl, hb7⟩
         have HB7 := Lib.hid hb7
         have HI7 := Lib.hid (HI6.out.up hb7)
         have HXa7 := Lib.hid (HXa.out.up hb7)
         have HXb7 := Lib.hid (HXb.out.up hb7)
         clear hb7 K1
         cases r1
         ·have HN9 := Lib.hid (show OpI w1 hs (.slice A hs.length C) (op1 (rF t.vars M) l ++ op2 (rF t.vars M) l i ++ opI (rF t.vars M) (fcA2 l i) ((l.drop (i + 1)).take (j + 1))) w7 from by
           rw [HSJ.out, if_neg (by rw [HOG.out]; simp), List.append_nil]; exact HI7.out)
          go_wp2
          go_roundw
          case rel => exact ⟨j + 1, A, C, hs, rfl, by go_num, by omega, HN9, HXa7⟩
          case measure => simp [intOf]; omega
         ·have K2 := Lib.hid (K2.out w7 HB7.out)
          have f0 := HXb7.out.cell 0 (.int .i64 y) rfl
          have f1 := HXb7.out.cell 1 (.int .i64 z) rfl
          have hbl := HXb7.out.lt
          go_wp2_with fail
          refine K2.out.mono ?_
          rintro e w8 ⟨rfl, hb8⟩
          have HB8 := Lib.hid (HB7.out.trans (hb8.mono HB7.out.size))
          have HI8 := Lib.hid (HI7.out.up hb8)
          have HXa8 := Lib.hid (HXa7.out.up hb8)
          have HXb8 := Lib.hid (HXb7.out.up hb8)
          clear hb8 K2 f0 f1 hbl
          cases r2
          ·have HN9 := Lib.hid (show OpI w1 hs (.slice A hs.length C) (op1 (rF t.vars M) l ++ op2 (rF t.vars M) l i ++ opI (rF t.vars M) (fcA2 l i) ((l.drop (i + 1)).take (j + 1))) w8 from by
            rw [HSJ.out, if_neg (by rw [HOG.out]; simp), List.append_nil]; exact HI8.out)
           go_wp2
           go_roundw
           case rel => exact ⟨j + 1, A, C, hs, rfl, by go_num, by omega, HN9, HXa8⟩
           case measure => simp [intOf]; omega
          ·have K3 := Lib.hid (K3.out w8 HB8.out)
           have f0 := HXb8.out.cell 0 (.int .i64 y) rfl
           have f1 := HXb8.out.cell 1 (.int .i64 z) rfl
           have f2 := HXa8.out.cell 0 (.int .i64 v) rfl
           have f3 := HXa8.out.cell 1 (.int .i64 x) rfl
           have hbl := HXb8.out.lt
           have hal := HXa8.out.lt
           go_wp2_with fail
           refine K3.out.mono ?_
           rintro e w9 ⟨rfl, hb9⟩
           have HI9 := Lib.hid (HI8.out.up hb9)
           have HXa9 := Lib.hid (HXa8.out.up hb9)
           have HXb9 := Lib.hid (HXb8.out.up hb9)
           clear hb9 K3 f0 f1 f2 f3 hbl hal
           cases r3
           ·have f0 := HXb9.out.cell 0 (.int .i64 y) rfl
            have f1 := HXb9.out.cell 1 (.int .i64 z) rfl
            have f2 := HXa9.out.cell 0 (.int .i64 v) rfl
            have f3 := HXa9.out.cell 1 (.int .i64 x) rfl
            have hbl := HXb9.out.lt
            have hal := HXa9.out.lt
            go_wp2_with (at_builtin; refine wpList_append_src (by rfl) _ _ 77 (by rfl) w1.heap.size 23 inf (.slice none 0 0) 1 24 nundL hinf iz0 iz1 iz2 rfl (by decide) (.slice A hs.length C) hs.length (hs.map Hd.v) (by rfl) (by exact (HI9.out.gr.own.alloc _).alloc _) (some ⟨w9.heap.size + 1, 0, none⟩) 1 1 [.slice (some ⟨w9.heap.size, 0, none⟩) 2 2] (by rfl) (src_of (BxI.new2 w9 _ 23 _) rfl (by intro u hu; simp at hu; subst hu; rfl)) (by unfold maxLen; omega) (by omega) (by first | omega | (simp; done) | (simp; omega)) ?_; intro v4 w4 hown4 hgrow4 hat4; obtain ⟨A4, c4, rfl⟩ := own_shape hown4; have HO4 := Lib.hid hown4; have HG4 := Lib.hid hgrow4; have HA4 := Lib.hid hat4; clear hown4 hgrow4 hat4)
            have HN := Lib.hid (HI9.out.two (x := (v, x)) (y := (y, z)) HO4.out HG4.out HA4.out)
            have HU := Lib.hid (show Below w9.heap.size w9 ((w9.alloc (.cells #[.int .i64 v, .int .i64 x, .int .i64 y, .int .i64 z] 68)).alloc (.cells #[.slice (some ⟨w9.heap.size, 0, none⟩) 2 2] 23)) from ((Below.refl _ _).alloc (Nat.le_refl _) _).alloc (by simp) _)
            have HX4 := Lib.hid (show BxI w4 wt.heap.size 68 #[.int .i64 v, .int .i64 x] from (HXa9.out.up HU.out).grown HG4.out (own_ne_bx (own_below HI9.out.gr.own HU.out) (HXa9.out.up HU.out) (by decide)))
            have Hlen : (hs ++ [(⟨some ⟨w9.heap.size, 0, none⟩, 2, [(v, x), (y, z)]⟩ : Hd)]).length = hs.length + 1 := by simp
            have HN9 := Lib.hid (show OpI w1 (hs ++ [(⟨some ⟨w9.heap.size, 0, none⟩, 2, [(v, x), (y, z)]⟩ : Hd)]) (.slice A4 (hs.length + 1) c4) (op1 (rF t.vars M) l ++ op2 (rF t.vars M) l i ++ opI (rF t.vars M) (fcA2 l i) ((l.drop (i + 1)).take (j + 1))) w4 from by
             rw [HSJ.out, if_pos (by rw [HOG.out]; simp [HEQ.out]), ← List.append_assoc, HVX.out]
             have h := HN.out
             rw [HVX.out] at h
             exact h)
            go_roundw
            case rel => exact ⟨j + 1, A4, c4, hs ++ [(⟨some ⟨w9.heap.size, 0, none⟩, 2, [(v, x), (y, z)]⟩ : Hd)], by rw [Hlen], by go_num, by omega, Lib.hid (by rw [Hlen]; exact HN9.out), HX4⟩
            case measure => simp [intOf]; omega
           ·have HN9 := Lib.hid (show OpI w1 hs (.slice A hs.length C) (op1 (rF t.vars M) l ++ op2 (rF t.vars M) l i ++ opI (rF t.vars M) (fcA2 l i) ((l.drop (i + 1)).take (j + 1))) w9 from by
             rw [HSJ.out, if_neg (by rw [HOG.out]; simp), List.append_nil]; exact HI9.out)
            go_wp2
            go_roundw
            case rel => exact ⟨j + 1, A, C, hs, rfl, by go_num, by omega, HN9, HXa9⟩
            case measure => simp [intOf]; omega
       ·have HJ9 := Lib.hid (show OpI w1 hs (.slice A hs.length C) (op1 (rF t.vars M) l ++ op2 (rF t.vars M) l (i + 1)) wu from by
         have h := HI.out
         rw [List.take_of_length_le (by rw [List.length_drop]; have := HN2.out; omega)] at h
         rw [List.append_assoc] at h
         exact h)
        go_wp2
        go_roundw
        case rel => exact ⟨i + 1, A, C, hs, rfl, by go_num, by omega, HJ9⟩
        case measure => simp [intOf]; omega
    ·have HE := Lib.hid (show OpI w hs (.slice A hs.length C) (opL (rF t.vars M) l) wt from by
      have e : i = l.length := by omega
      have h := HI.out
      rw [e] at h
      exact h.low HB1.out)
     go_wp2
     go_ret
     exact ⟨⟨A, C, hs, rfl, HE.out⟩, HB1.out.trans (HI.out.gr.bel.mono HB1.out.size)⟩
end

end Go.Proofs.YtlkebhiaimijiaaGreatDoor

/- task.Parse. -/
import Derived.Test.YtbcbmpnikgeoeaaDoorMpA
import Derived.Test.YtbcbmpnikgeoeaaDoorMpI
import Derived.Test.YtbcbmpnikgeoeaaDoorMpB
import Derived.Test.YtbcbmpnikgeoeaaDoorMpF
namespace Go.Proofs.YtbcbmpnikgeoeaaDoor
set_option linter.unusedSimpArgs false
set_option linter.unusedVariables false
open Go Go.RowKit
set_option linter.unusedVariables false

theorem qinfoOp : (Tryd.prog.info? 47).map (fun i => (i.zero, i.size, i.bytes)) = some (some (.agg #[.string ByteArray.empty, .int .i64 0, .slice none 0 0, .slice none 0 0]), 4, 72) := by kernel_rfl
theorem qundOp : Tryd.prog.underlying 25 = some (.slice 47) := by kernel_rfl
/-- What Parse answers. -/
def ParRet (s : List UInt8) (w : World) (e : Ending) (w' : World) : Prop :=
  ∃ p : Lies, e = .returned (.tuple #[TaskV (parT s) p, erV (parC s)]) ∧ TaskAt w' w'.heap.size (parT s) p ∧ Below w.heap.size w w' ∧
    (0 < (parT s).ops.length → ∃ g, p.ao = some ⟨g, 0, none⟩ ∧ w.heap.size ≤ g ∧ g < w'.heap.size ∧ ∀ k, w'.frozen? ⟨g, k, none⟩ = false)
theorem parRet_no {s : List UInt8} {w w' : World} {c : Int} (h : parC s = c ∧ parT s = noT) (hc : c ≠ 0) (hb : Below w.heap.size w w') :
    ParRet s w (.returned (.tuple #[.agg #[.slice none 0 0, .slice none 0 0, .slice none 0 0, .slice none 0 0], .iface 57 (.int .i64 c)])) w' := by
  refine ⟨⟨none, none, none, none, 0, 0, 0, 0⟩, ?_, ?_, hb, ?_⟩
  · rw [h.1, h.2]
    unfold erV
    rw [if_neg hc]
    rfl
  · rw [h.2]; exact noT_at _ _
  · rw [h.2]; intro h0; simp [noT] at h0
theorem par_new {w : World} {P L o : Nat} {ls : List (List UInt8)} {b : Bool} {c : Nat} (hE : EnvP P w) (hP : P = w.heap.size) (hL : L < P) (hc : ls.length < c) (hl : ls.length ≤ 65537) (hs : ∀ s ∈ ls, s.length ≤ 65536)
    (hat : ∀ k, k < ls.length → w.cell? ⟨L, o + k, none⟩ = some (.string (bs (txt ls k)))) : Par (w.alloc (.cells #[.slice (some ⟨L, o, none⟩) ls.length c, .bool b] 62)) P L o c ls b where
  blk := by rw [hP]; exact heap_alloc_new _ _
  low := hL
  cap := hc
  len := hl
  sml := hs
  at_ := fun k hk => by
    rw [World.cell?_of_block (w := w) (a := ⟨L, o + k, none⟩) ((World.grownBy_alloc w _ none).block L (by show L < w.heap.size; omega) (by simp))]
    exact hat k hk
  env := by
    obtain ⟨w0, h0, h1, h2⟩ := hE
    exact ⟨w0, h0, h1, h2.alloc (by omega) _⟩

/-- The loop over the operators of a text. -/
structure ParI (P L TB : Nat) (wl : World) (q : List (List UInt8)) (b0 : Bool) (v0 v1 v2 : Value) (wr : World) (o c : Nat) (ls : List (List UInt8)) (b : Bool) (os : List Opr) (O : Value) (xv : List Value) : Prop where
  own : wr.ownsRow wl.heap.size 47 4 O os.length xv
  ops : OpIs wr (fun g => g < wl.heap.size ∨ O.ownBlock = some g) xv os
  box : BxI wr TB 27 #[v0, v1, v2, O]
  par : Par wr P L o c ls b
  kb : Kb (fun g => g = P ∨ g = TB) wl wr
  yes : b = true → b0 = true ∨ opsF q = none
  no : b = false → b0 = false ∧ opsF q = (opsF ls).map (os ++ ·)
  len : os.length + ls.length ≤ q.length
theorem ParI.next {P L TB o c o2 c2 c' d' : Nat} {wl wr wx w9 : World} {q r ls' : List (List UInt8)} {b0 b : Bool} {v0 v1 v2 O v' : Value} {l : List UInt8} {os : List Opr} {xv : List Value} {x : Opr} {A' C' : Option Addr}
    (hI : ParI P L TB wl q b0 v0 v1 v2 wr o c (l :: r) false os O xv) (hP : P < TB) (hO : TB < wl.heap.size) (hs : x.name.size ≤ 65536)
    (hf : Fac wx (fun g => g < wr.heap.size) A' x.pre) (he : Efs wx (fun g => g < wr.heap.size) C' x.effs) (hp : Par wx P L o2 c2 ls' b) (hk : Kp1 P wr wx)
    (hy : b = true → opS (l :: r) = none) (hn : b = false → opS (l :: r) = some (x, ls')) (hl : ls'.length < (l :: r).length) {ob : Obj}
    (hown : w9.ownsRow wl.heap.size 47 4 v' (os.length + 1) (xv ++ [.string x.name, .int .i64 x.cost, .slice A' x.pre.length c', .slice C' x.effs.length d'])) (hg : (wx.alloc ob).grownBy w9 O.ownBlock) (hat : v'.ownBlock = O.ownBlock ∨ v'.ownBlock = some (wx.alloc ob).heap.size) :
    ParI P L TB wl q b0 v0 v1 v2 (w9.setCell ⟨TB, 3, none⟩ v') o2 c2 ls' b (os ++ [x]) v' (xv ++ [.string x.name, .int .i64 x.cost, .slice A' x.pre.length c', .slice C' x.effs.length d']) where
  own := by
    rw [List.length_append]
    exact own_set hown hO
  ops := by
    have h1 : OpIs wx (fun g => g < wl.heap.size ∨ O.ownBlock = some g) xv os := hI.ops.move ⟨hk.size, fun g hg hn => hk.block g hg (fun e => hn (.inl (by omega))), fun _ _ h => h⟩
    have hm : Moves wx wx (fun g => g < wr.heap.size) (fun g => g < wl.heap.size ∨ O.ownBlock = some g) := Moves.mono fun g hg hb => by
      have := hI.kb.size
      rcases hb with hb | hb
      · show g < wr.heap.size; omega
      · exact (hI.own.lt g hb).2
    have h3 := ((h1.push (c := c') (d := d') (o := x) (by omega) (hf.move hm) (he.move hm)).move (Moves.up ((Below.refl _ _).alloc (Nat.le_refl _) ob))).move (Moves.grownTo (lo := wl.heap.size) hg hat)
    exact h3.move (Moves.set (p := ⟨TB, 3, none⟩) v' (.inl hO))
  box := by
    have h1 := (hI.box.kb hk (by omega)).up ((Below.refl wx.heap.size wx).alloc (Nat.le_refl _) ob)
    have h2 := h1.grown hg (fun e => by have := (hI.own.lt TB e).1; omega)
    exact h2.set 3 v'
  par := ((hp.alloc ob).grown hg (fun j hj => by have := (hI.own.lt j hj).1; omega)).far (p := ⟨TB, 3, none⟩) hP v'
  kb := by
    have h1 : Kb (fun g => g = P ∨ g = TB) wl wx := hI.kb.trans ⟨hk.os, hk.tape, hk.output, hk.size, fun g hg hn => hk.block g hg (fun e => hn (.inl e))⟩
    exact ((h1.alloc ob).grown hg (fun j hj => .inr (hI.own.lt j hj).1)).set (p := ⟨TB, 3, none⟩) (.inl (.inr rfl)) v'
  yes := fun hb => .inr (by
    rw [(hI.no rfl).2, opsF_step, hy hb]
    rfl)
  no := fun hb => ⟨(hI.no rfl).1, by
    rw [(hI.no rfl).2, opsF_step, hn hb]
    cases e : opsF ls' <;> simp [e]⟩
  len := by have := hI.len; simp at this hl ⊢; omega
theorem own_frozen {w : World} {B s n : Nat} {e : TypeId} {A : Option Addr} {c : Nat} {xs : List Value} (h : w.ownsRow B e s (.slice A n c) n xs) (hn : 0 < n) : ∃ g, A = some ⟨g, 0, none⟩ ∧ B ≤ g ∧ g < w.heap.size ∧ ∀ k, w.frozen? ⟨g, k, none⟩ = false := by
  rcases h.2 with ⟨h0, h1⟩ | ⟨g, cap, cur, h0, hb, hg, _⟩
  · omega
  · injection h0 with h0 _ _
    exact ⟨g, h0, hb, (Array.getElem?_eq_some_iff.1 hg).1, fun k => by simp [World.frozen?, hg]⟩
theorem strV_get {l : List (List UInt8)} {k : Nat} (hk : k < l.length) : (strV l)[k]? = some (.string (bs (txt l k))) := by
  unfold strV txt
  simp [List.getD, List.getElem?_eq_getElem hk]
theorem txt_app {l m : List (List UInt8)} {k : Nat} (h : k < l.length) : txt (l ++ m) k = txt l k := by unfold txt; simp [List.getD, List.getElem?_append_left h]
theorem txt_last {l : List (List UInt8)} {x : List UInt8} : txt (l ++ [x]) l.length = x := by unfold txt; simp [List.getD]

set_option maxRecDepth 20000 in
set_option maxHeartbeats 4000000 in
theorem pparse_any (s : List UInt8) (w : World) (hE : Env w) :
    Calls Tryd.prog 7 #[.string (bs s)] w (ParRet s w) := by
  have hz := bs_size s
  by_cases hl : 65536 < s.length
  · have h1 := parC_large hl
    have H1 := Lib.hid h1
    clear h1
    go_enter Tryd.func7, Tryd.ntmps7
    go_wp2
    refine bodyPost_ret (v := .tuple #[.agg #[.slice none 0 0, .slice none 0 0, .slice none 0 0, .slice none 0 0], .iface 57 (.int .i64 5)]) (by simp [results, Tryd.results7, go_sem, ↓IntWalk.iteOmega, *]) rfl (parRet_no H1.out (by decide) ?_)
    repeat (first | exact Below.refl _ _ | refine below_dN ?_ _ | refine Below.drew ?_ | refine Below.alloc ?_ (by first | omega | (simp; done) | (simp; omega)) _ | refine Below.setCell ?_ (by first | omega | (simp; done) | (simp; omega)) _ | refine below_step (by assumption) (by first | omega | (simp; done) | (simp; omega)) ?_)
  · have k1 := fun W (hE : EnvM W) => psplit_any 10 s W (by omega) hE
    obtain ⟨q1, q2⟩ := pcs_small 10 _ s (Nat.le_refl _)
    obtain ⟨ls, lt, hls⟩ : ∃ ls lt, pcs 10 s = ls ++ [lt] := ⟨(pcs 10 s).dropLast, (pcs 10 s).getLast (pcs_ne 10 s), (List.dropLast_concat_getLast (pcs_ne 10 s)).symm⟩
    have htw : taskW s = if lt = [] then linesW ls else none := by
      unfold taskW
      rw [hls, List.getLast?_concat, List.dropLast_concat]
      by_cases h : lt = []
      · rw [if_pos (by rw [h]), if_pos h]
      · rw [if_neg (by simpa using h), if_neg h]
    rw [hls] at k1 q1 q2
    rw [List.length_append, List.length_singleton] at k1 q1
    have hcell : ∀ (W : World) (k : Nat), k < ls.length + 1 → (W.alloc (.cells (strV (ls ++ [lt])).toArray 9)).cell? ⟨W.heap.size, k, none⟩ = some (.string (bs (txt (ls ++ [lt]) k))) := fun W k hk => by
      rw [cell_of_row _ W.heap.size _ (strV (ls ++ [lt])).toArray _ _ (heap_alloc_new _ _)]
      rw [show (strV (ls ++ [lt])).toArray[k]? = (strV (ls ++ [lt]))[k]? by simp]
      exact strV_get (by simp; omega)
    have K1 := Lib.hid k1
    have HE := Lib.hid hE
    have HT := Lib.hid htw
    have HQ := Lib.hid q2
    have HC := Lib.hid hcell
    have HLS := Lib.hid hls
    clear k1 hE htw q2 hcell hls
    go_enter Tryd.func7, Tryd.ntmps7
    go_wp2_with fail
    refine (K1.out _ (HE.out.m.up (by repeat (first | exact Below.refl _ _ | refine below_dN ?_ _ | refine Below.drew ?_ | refine Below.alloc ?_ (by first | omega | (simp; done) | (simp; omega)) _ | refine Below.setCell ?_ (by first | omega | (simp; done) | (simp; omega)) _ | refine below_step (by assumption) (by first | omega | (simp; done) | (simp; omega)) ?_)))).mono ?_
    rintro e w1 ⟨rfl, rfl⟩
    obtain ⟨wa, hwa⟩ : ∃ wa : World, (w.alloc (Obj.cells #[Value.slice none 0 0, Value.slice none 0 0, Value.slice none 0 0, Value.slice none 0 0] 27)).alloc (Obj.cells (strV (ls ++ [lt])).toArray 9) = wa := ⟨_, rfl⟩
    have haz : wa.heap.size = w.heap.size + 1 + 1 := by rw [← hwa]; simp
    have hac : ∀ k, k < ls.length + 1 → wa.cell? ⟨w.heap.size + 1, k, none⟩ = some (.string (bs (txt (ls ++ [lt]) k))) := fun k hk => by
      have := HC.out (w.alloc (Obj.cells #[Value.slice none 0 0, Value.slice none 0 0, Value.slice none 0 0, Value.slice none 0 0] 27)) k hk
      rw [hwa] at this
      simpa using this
    have har : BxI wa w.heap.size 27 #[Value.slice none 0 0, Value.slice none 0 0, Value.slice none 0 0, Value.slice none 0 0] := by
      rw [← hwa]
      exact (BxI.new _ _ _).up ((Below.refl _ _).alloc (Nat.le_refl _) _)
    have hab : Below w.heap.size w wa := by rw [← hwa]; repeat (first | exact Below.refl _ _ | refine below_dN ?_ _ | refine Below.drew ?_ | refine Below.alloc ?_ (by first | omega | (simp; done) | (simp; omega)) _ | refine Below.setCell ?_ (by first | omega | (simp; done) | (simp; omega)) _ | refine below_step (by assumption) (by first | omega | (simp; done) | (simp; omega)) ?_)
    have hal := hac ls.length (by omega)
    rw [txt_last] at hal
    have hpn : ∀ (wx : World) (b : Bool), Below wa.heap.size wa wx → wx.heap.size = w.heap.size + 1 + 1 → Par (wx.alloc (.cells #[.slice (some ⟨w.heap.size + 1, 0, none⟩) ls.length (ls.length + 1), .bool b] 62)) (w.heap.size + 1 + 1) (w.heap.size + 1) 0 (ls.length + 1) ls b := fun wx b hb hx =>
      par_new ⟨w, HE.out, by omega, hab.trans (hb.mono (by omega))⟩ hx.symm (by omega) (by omega) (by omega) (fun x hx => Nat.le_trans (HQ.out x (by simp [hx])) (by omega)) (fun k hk => by
        rw [Nat.zero_add, hb.cell (p := ⟨w.heap.size + 1, k, none⟩) (by show w.heap.size + 1 < wa.heap.size; omega), hac k (by omega), txt_app hk])
    have HPN := Lib.hid hpn
    have HAB := Lib.hid hab
    have HAR := Lib.hid har
    clear hpn hab har hac
    rw [hwa]
    clear hwa
    go_upto_region 5 with fail
    go_cut [6] (fun v6 wx => v6 = .pointer (some ⟨w.heap.size + 1 + 1, 0, none⟩) ∧ Par wx (w.heap.size + 1 + 1) (w.heap.size + 1) 0 (ls.length + 1) ls (!decide (lt = [])) ∧ BxI wx w.heap.size 27 #[Value.slice none 0 0, Value.slice none 0 0, Value.slice none 0 0, Value.slice none 0 0] ∧ Below w.heap.size w wx ∧ wx.heap.size = w.heap.size + 1 + 1 + 1)
    case first =>
      refine wp_region_G 9 (fun w' => w'.cell? ⟨w.heap.size + 1, ls.length, none⟩ = some (.string (bs lt))) (by kernel_rfl) (by simpa using hal) ?_
      intro hG0
      refine wpS1 0 hG0 ?_; intro hG1; clear hG0
      refine wpS1 1 hG1 ?_; intro hG2; clear hG1
      refine wpS1 2 hG2 ?_; intro hG3; clear hG2
      refine wpS1 3 hG3 ?_; intro hG4; clear hG3
      refine wpS1 4 hG4 ?_; intro hG5; clear hG4
      refine wpS1 5 hG5 ?_; intro hG6; clear hG5
      refine wpS2 6 hG6 ?_; intro hG7; clear hG6
      refine wpS1 7 hG7 ?_; intro hG8; clear hG7
      refine wpS1 8 hG8 ?_; intro hG9; clear hG8
      refine wpAnyG_ready (rs := [9]) (by kernel_rfl) (by simp) (AllG.cons rfl hG9 (fun K hK => ?_) AllG.nil)
      (go_simp)
      refine hK.out _ _ (Or.inl rfl) (fun hG10 => wpN ?_); clear hK hG9
      refine wpS1 10 hG10 ?_; intro hG11; clear hG10
      refine wpAnyG_done (by kernel_rfl) ?_ _; clear hG11
      go_wp2
      go_meet
      have e : (!(bs lt).toList.isEmpty) = !decide (lt = []) := by rw [Lib.toList_data, bs_data]; cases lt <;> rfl
      rw [e]
      exact ⟨rfl, (HPN.out wa _ (Below.refl _ _) haz).drew, (HAR.out.up ((Below.refl _ _).alloc (Nat.le_refl _) (Obj.cells #[Value.slice (some ⟨w.heap.size + 1, 0, none⟩) ls.length (ls.length + 1), .bool (!decide (lt = []))] 62)).drew), (HAB.out.alloc (by omega) _).drew, by simp [haz]⟩
    case rest =>
      obtain ⟨rfl, hp0, hr0, hb0, hz0⟩ := hcut
      generalize hbb : (!decide (lt = [])) = b0 at hp0
      have HBB := Lib.hid hbb
      clear hbb hal
      have k2 := pnums_any' (w.heap.size + 1 + 1) (w.heap.size + 1) 0 (ls.length + 1) ls b0 wVars wc hp0 (by decide) (by decide)
      obtain ⟨ws1, ls1, f1, hl1⟩ : ∃ a b c, lineR wVars ls = (a, b, c) := ⟨_, _, _, rfl⟩
      rw [hl1] at k2
      have K2 := Lib.hid k2
      have HL1 := Lib.hid hl1
      have HP0 := Lib.hid hp0
      have HR0 := Lib.hid hr0
      have HB0 := Lib.hid hb0
      clear k2 hl1 hp0 hr0 hb0
      go_wp2_with fail
      refine K2.out.mono ?_
      rintro e w2 ⟨A2, c2, xs2, o2, d2, rfl, ha2, hn2, hx2, hi2, hp2, hk2⟩
      dsimp only at hn2 hx2 hp2
      have k3 := pnums_any' (w.heap.size + 1 + 1) (w.heap.size + 1) o2 d2 ls1 _ wInit w2 hp2 (by decide) (by decide)
      obtain ⟨ws2, ls2, f2, hl2⟩ : ∃ a b c, lineR wInit ls1 = (a, b, c) := ⟨_, _, _, rfl⟩
      rw [hl2] at k3
      have K3 := Lib.hid k3
      have HL2 := Lib.hid hl2
      have HX2 := Lib.hid hx2
      have HI2 := Lib.hid hi2
      have HP2 := Lib.hid hp2
      have HK2 := Lib.hid hk2
      have HN2 := Lib.hid hn2
      have z2 := hk2.size
      clear k3 hl2 hp2 hx2 hi2 hk2 hn2
      go_wp2_with fail
      refine K3.out.mono ?_
      rintro e w3 ⟨A3, c3, xs3, o3, d3, rfl, ha3, hn3, hx3, hi3, hp3, hk3⟩
      dsimp only at hn3 hx3 hp3
      have k4 := pline_any (w.heap.size + 1 + 1) (w.heap.size + 1) o3 d3 ls2 _ wGoal w3 hp3 (by decide) (by decide)
      obtain ⟨ws3, ls3, f3, hl3⟩ : ∃ a b c, lineR wGoal ls2 = (a, b, c) := ⟨_, _, _, rfl⟩
      rw [hl3] at k4
      have K4 := Lib.hid k4
      have HL3 := Lib.hid hl3
      have HX3 := Lib.hid hx3
      have HI3 := Lib.hid hi3
      have HP3 := Lib.hid hp3
      have HK3 := Lib.hid hk3
      have HN3 := Lib.hid hn3
      have z3 := hk3.size
      clear k4 hl3 hp3 hx3 hi3 hk3 hn3
      go_wp2_with fail
      refine K4.out.mono ?_
      rintro e w4 ⟨A4, c4, o4, d4, rfl, hc4, hs4, hp4, hk4⟩
      dsimp only at hc4 hs4 hp4
      have HS4 := Lib.hid hs4
      have HP4 := Lib.hid hp4
      have HK4 := Lib.hid hk4
      have z4 := hk4.size
      clear hs4 hp4 hk4
      go_wp2_with fail
      refine (pfacts2_any (w.heap.size + 1 + 1) (w.heap.size + 1) o4 d4 ls3 _ ws3 A4 c4 w4 HP4.out HS4.out).mono ?_
      rintro e w5 ⟨A5, c5, xs5, rfl, ha5, hn5, hx5, hi5, hp5, hk5⟩
      have z5 := hk5.size
      have HH1 := Lib.hid (task_head (b0 := b0) HL1.out HL2.out HL3.out HX2.out HX3.out hx5)
      have HH2 := Lib.hid (task_head2 (b0 := b0) HL1.out HL2.out HL3.out HX2.out HX3.out hx5)
      have HX5 := Lib.hid hx5
      have HI5 := Lib.hid hi5
      have HP5 := Lib.hid hp5
      have HK5 := Lib.hid hk5
      have HN5 := Lib.hid hn5
      clear hx5 hi5 hp5 hk5 hn5
      go_wp2
      obtain ⟨wl, hwl⟩ : ∃ wl : World, w5.alloc (Obj.cells #[.slice A2 xs2.length c2, .slice A3 xs3.length c3, .slice A5 xs5.length c5, .slice none 0 0] 27) = wl := ⟨_, rfl⟩
      have hwz : wl.heap.size = w5.heap.size + 1 := by rw [← hwl]; simp
      have hpl := HP5.out.alloc (Obj.cells #[.slice A2 xs2.length c2, .slice A3 xs3.length c3, .slice A5 xs5.length c5, .slice none 0 0] 27)
      have hxl := BxI.new w5 27 #[.slice A2 xs2.length c2, .slice A3 xs3.length c3, .slice A5 xs5.length c5, .slice none 0 0]
      have hkl := Kb.alloc (((HK2.out.trans HK3.out).trans HK4.out).trans HK5.out) (Obj.cells #[.slice A2 xs2.length c2, .slice A3 xs3.length c3, .slice A5 xs5.length c5, .slice none 0 0] 27)
      have hup := (Below.refl w5.heap.size w5).alloc (Nat.le_refl _) (Obj.cells #[.slice A2 xs2.length c2, .slice A3 xs3.length c3, .slice A5 xs5.length c5, .slice none 0 0] 27)
      have hup2 : Moves w5 _ (fun g => g < wc.heap.size) (fun g => g < wc.heap.size ∨ g = w5.heap.size) := ⟨hup.size, fun b h _ => hup.block b h, fun b hb h => by rcases h with h | h; exact h; omega⟩
      have hi2l := (((HI2.out.move (moves_kp HK3.out (by omega))).move (moves_kp HK4.out (by omega))).move (moves_kp HK5.out (by omega))).move hup2
      have hi3l := (((HI3.out.move (Moves.mono (bad' := fun g => g < wc.heap.size) fun g _ h => by have : g < wc.heap.size := h; show g < w2.heap.size; omega)).move (moves_kp HK4.out (by omega))).move (moves_kp HK5.out (by omega))).move hup2
      have hi5l := (HI5.out.move (Moves.mono (bad' := fun g => g < wc.heap.size) fun g _ h => by have : g < wc.heap.size := h; show g < w4.heap.size; omega)).move hup2
      have hrl := HR0.out.kb hkl (by omega)
      rw [hwl] at hpl hxl hkl hi2l hi3l hi5l hrl ⊢
      generalize hb3 : ((((((b0 || f1) || (numsW ws1).isNone) || f2) || (numsW ws2).isNone) || f3) || (facsW ws3).isNone) = b3 at *
      have HPL := Lib.hid hpl
      have HXL := Lib.hid hxl
      have HKL := Lib.hid hkl
      have HI2L := Lib.hid hi2l
      have HI3L := Lib.hid hi3l
      have HI5L := Lib.hid hi5l
      have HRL := Lib.hid hrl
      clear hpl hxl hkl hi2l hi3l hi5l hrl hwl hup hup2 hb3
      have plt5 : w.heap.size + 1 + 1 < w5.heap.size := by omega
      have fbad : ∀ (wt : World) (o c : Nat) (ls' : List (List UInt8)) (os : List Opr) (O : Value) (xv : List Value), ParI (w.heap.size + 1 + 1) (w.heap.size + 1) w5.heap.size wl ls3 b3 (.slice A2 xs2.length c2) (.slice A3 xs3.length c3) (.slice A5 xs5.length c5) wt o c ls' true os O xv → parC s = 2 ∧ parT s = noT := by
        intro wt o c ls' os O xv hI
        refine parC_none hl ?_
        rw [HT.out]
        rcases hI.yes rfl with h1 | h1
        · rcases HH1.out h1 with h2 | h2
          · rw [if_neg]; rw [← HBB.out] at h2; simpa using h2
          · split
            · exact h2
            · rfl
        · by_cases h2 : b3 = true
          · rcases HH1.out h2 with h2 | h2
            · rw [if_neg]; rw [← HBB.out] at h2; simpa using h2
            · split
              · exact h2
              · rfl
          · have h3 := (HH2.out (by simpa using h2)).2
            rw [h3, h1]
            split <;> rfl
      have fgood : ∀ (wt : World) (o c : Nat) (os : List Opr) (O : Value) (xv : List Value), ParI (w.heap.size + 1 + 1) (w.heap.size + 1) w5.heap.size wl ls3 b3 (.slice A2 xs2.length c2) (.slice A3 xs3.length c3) (.slice A5 xs5.length c5) wt o c [] false os O xv →
          parC s = chkC ⟨xs2, xs3, xs5, os⟩ ∧ parT s = if chkC ⟨xs2, xs3, xs5, os⟩ = 0 then ⟨xs2, xs3, xs5, os⟩ else noT := by
        intro wt o c os O xv hI
        refine parC_some hl ?_
        obtain ⟨h1, h2⟩ := hI.no rfl
        obtain ⟨h3, h4⟩ := HH2.out h1
        rw [opsF_nil] at h2
        rw [HT.out, if_pos (by rw [← HBB.out] at h3; simpa using h3), h4, h2]
        simp
      have fkb : ∀ (wt : World), Kb (fun g => g = w.heap.size + 1 + 1 ∨ g = w5.heap.size) wl wt → Below w.heap.size w wt ∧ BxI wt w.heap.size 27 #[Value.slice none 0 0, Value.slice none 0 0, Value.slice none 0 0, Value.slice none 0 0] := by
        intro wt hk
        refine ⟨(HB0.out.trans (HKL.out.below (fun g hg e => by have : g = w.heap.size + 1 + 1 := e; omega) (by omega))).trans (hk.below (fun g hg e => by rcases e with e | e <;> omega) (by omega)), HRL.out.kb hk (by omega)⟩
      have frow : ∀ (wt : World), Below w.heap.size w wt → ∀ (v0 v1 v2 v3 : Value), Below w.heap.size w ((((wt.setCell ⟨w.heap.size, 0, none⟩ v0).setCell ⟨w.heap.size, 1, none⟩ v1).setCell ⟨w.heap.size, 2, none⟩ v2).setCell ⟨w.heap.size, 3, none⟩ v3) := fun wt hb v0 v1 v2 v3 =>
        (((hb.setCell (p := ⟨w.heap.size, 0, none⟩) (Nat.le_refl _) v0).setCell (p := ⟨w.heap.size, 1, none⟩) (Nat.le_refl _) v1).setCell (p := ⟨w.heap.size, 2, none⟩) (Nat.le_refl _) v2).setCell (p := ⟨w.heap.size, 3, none⟩) (Nat.le_refl _) v3
      have ftask : ∀ (wt : World) (o c : Nat) (ls' : List (List UInt8)) (b : Bool) (os : List Opr) (A : Option Addr) (cA : Nat) (xv : List Value), ParI (w.heap.size + 1 + 1) (w.heap.size + 1) w5.heap.size wl ls3 b3 (.slice A2 xs2.length c2) (.slice A3 xs3.length c3) (.slice A5 xs5.length c5) wt o c ls' b os (.slice A os.length cA) xv →
          ∀ (w' : World) (bad' : Nat → Prop), Moves wt w' (fun g => g < w.heap.size + 1) bad' → w'.ownsRow wl.heap.size 47 4 (.slice A os.length cA) os.length xv → TaskAt w' w'.heap.size ⟨xs2, xs3, xs5, os⟩ ⟨A2, A3, A5, A, c2, c3, c5, cA⟩ := by
        intro wt o c ls' b os A cA xv hI w' bad' hm ho
        have hm1 : Moves wl wt (fun g => g < wc.heap.size ∨ g = w5.heap.size) (fun g => g < w.heap.size + 1) := ⟨hI.kb.size, fun g hg hn => hI.kb.block g hg (fun e => hn (by rcases e with e | e; exact .inl (by omega); exact .inr e)), fun g _ h => .inl (by have : g < w.heap.size + 1 := h; omega)⟩
        have h1 := ((HI2L.out.move hm1).move hm).at_
        have h2 := ((HI3L.out.move hm1).move hm).at_
        have h3 := ((HI5L.out.move hm1).move hm).at_
        have h4 := (hI.ops.move (Moves.mono (bad' := fun g => g < w.heap.size + 1) fun g _ h => .inl (by have : g < w.heap.size + 1 := h; omega))).move hm
        obtain ⟨A', c', e1, e2, e3⟩ := h4.ops ho (by have := hI.len; have := HPL.out.len; omega)
        have e4 : A' = A := by injection e1 with h1 _ h2; exact h1.symm
        rw [e4] at e3
        exact ⟨h1, h2, h3, e3⟩
      have FBAD := Lib.hid fbad
      have FGOOD := Lib.hid fgood
      have FKB := Lib.hid fkb
      have FROW := Lib.hid frow
      have FTASK := Lib.hid ftask
      have qlen : ls3.length ≤ 65537 := HPL.out.len
      clear fbad fgood fkb frow ftask
      obtain ⟨infO, hiO, oz0, oz1, oz2⟩ := info_parts qinfoOp
      go_loopw [] (fun wr => ∃ (o c : Nat) (ls : List (List UInt8)) (b : Bool) (os : List Opr) (O : Value) (xv : List Value), ParI (w.heap.size + 1 + 1) (w.heap.size + 1) w5.heap.size wl ls3 b3 (.slice A2 xs2.length c2) (.slice A3 xs3.length c3) (.slice A5 xs5.length c5) wr o c ls b os O xv) (fun wr => lenOf (w.heap.size + 1 + 1) wr)
      case atStart => exact ⟨_, _, ls3, b3, [], .slice none 0 0, [], World.ownsRow_nil _ _ _ _, OpIs.nil _ _, HXL.out, HPL.out, Kb.refl _ _, fun h => .inl h, fun h => ⟨h, by cases e : opsF ls3 <;> simp⟩, by simp⟩
      case round =>
        obtain ⟨o6, c6, ls6, b, os, O, xv, hI⟩ := hrel
        obtain ⟨wt, rfl⟩ : ∃ wt : World, wt = wr := ⟨_, rfl⟩
        have HI := Lib.hid hI
        have k0 := hI.par.c0
        have k1 := hI.par.c1
        have g1 := hI.par.lt
        have z1 := hI.kb.size
        obtain ⟨AO, cO, rfl⟩ := own_shape hI.own
        have x0 := hI.box.cell 0 _ rfl
        have x1 := hI.box.cell 1 _ rfl
        have x2 := hI.box.cell 2 _ rfl
        have x3 := hI.box.cell 3 _ rfl
        have xl := hI.box.lt
        have hkb := FKB.out wt hI.kb
        have hrt := hkb.2
        have y0 := hrt.cell 0 _ rfl
        have y1 := hrt.cell 1 _ rfl
        have y2 := hrt.cell 2 _ rfl
        have y3 := hrt.cell 3 _ rfl
        have yf := hrt.fz
        have yl := hrt.lt
        have HKB := Lib.hid hkb.1
        have HRT := Lib.hid hrt
        clear hI hkb hrt
        cases b with
        | true =>
          have hno := FBAD.out _ _ _ _ _ _ _ HI.out
          have HNO := Lib.hid hno
          clear hno
          go_wp2
          refine bodyPost_ret (v := .tuple #[.agg #[.slice none 0 0, .slice none 0 0, .slice none 0 0, .slice none 0 0], .iface 57 (.int .i64 2)]) (by simp [results, Tryd.results7, go_sem, ↓IntWalk.iteOmega, *]) rfl (parRet_no HNO.out (by decide) (FROW.out wt HKB.out _ _ _ _))
        | false =>
          cases ls6 with
          | nil =>
            have hgd := FGOOD.out _ _ _ _ _ _ HI.out
            have htk := FTASK.out _ _ _ _ _ _ _ _ _ HI.out wt (fun g => g < w.heap.size) (Moves.mono fun g _ h => Nat.lt_succ_of_lt h) HI.out.own
            have k9 := tcheck_any _ _ wt htk
            unfold TaskV at k9
            dsimp only at k9
            by_cases hc : chkC ⟨xs2, xs3, xs5, os⟩ = 0
            · rw [hc, erV_0] at k9
              rw [hc, if_pos rfl] at hgd
              have fin : ∀ w9 : World, Below wt.heap.size wt w9 → ParRet s w (.returned (.tuple #[.agg #[.slice A2 xs2.length c2, .slice A3 xs3.length c3, .slice A5 xs5.length c5, .slice AO os.length cO], .nilIface]))
                  ((((w9.setCell ⟨w.heap.size, 0, none⟩ (.slice A2 xs2.length c2)).setCell ⟨w.heap.size, 1, none⟩ (.slice A3 xs3.length c3)).setCell ⟨w.heap.size, 2, none⟩ (.slice A5 xs5.length c5)).setCell ⟨w.heap.size, 3, none⟩ (.slice AO os.length cO)) := by
                intro w9 hb9
                have hm : Moves wt ((((w9.setCell ⟨w.heap.size, 0, none⟩ (.slice A2 xs2.length c2)).setCell ⟨w.heap.size, 1, none⟩ (.slice A3 xs3.length c3)).setCell ⟨w.heap.size, 2, none⟩ (.slice A5 xs5.length c5)).setCell ⟨w.heap.size, 3, none⟩ (.slice AO os.length cO)) (fun g => g < w.heap.size + 1) (fun g => g < w.heap.size) :=
                  (((((Moves.up hb9).trans (Moves.set (p := ⟨w.heap.size, 0, none⟩) _ (Nat.lt_succ_self _))).trans (Moves.set (p := ⟨w.heap.size, 1, none⟩) _ (Nat.lt_succ_self _))).trans (Moves.set (p := ⟨w.heap.size, 2, none⟩) _ (Nat.lt_succ_self _))).trans (Moves.set (p := ⟨w.heap.size, 3, none⟩) _ (Nat.lt_succ_self _))).trans (Moves.mono fun g _ h => Nat.lt_succ_of_lt h)
                have ho := own_set (p := ⟨w.heap.size, 3, none⟩) (u := .slice AO os.length cO) (own_set (p := ⟨w.heap.size, 2, none⟩) (u := .slice A5 xs5.length c5) (own_set (p := ⟨w.heap.size, 1, none⟩) (u := .slice A3 xs3.length c3) (own_set (p := ⟨w.heap.size, 0, none⟩) (u := .slice A2 xs2.length c2) (own_below HI.out.own hb9) (by show w.heap.size < wl.heap.size; omega)) (by show w.heap.size < wl.heap.size; omega)) (by show w.heap.size < wl.heap.size; omega)) (by show w.heap.size < wl.heap.size; omega)
                refine ⟨⟨A2, A3, A5, AO, c2, c3, c5, cO⟩, ?_, ?_, FROW.out w9 (HKB.out.trans (hb9.mono HKB.out.size)) _ _ _ _, ?_⟩
                · rw [hgd.1, hgd.2]; rfl
                · rw [hgd.2]; exact FTASK.out _ _ _ _ _ _ _ _ _ HI.out _ _ hm ho
                · rw [hgd.2]
                  intro hn
                  obtain ⟨g, h1, h2, h3, h4⟩ := own_frozen ho hn
                  exact ⟨g, h1, by omega, h3, h4⟩
              have FIN := Lib.hid fin
              have K9 := Lib.hid k9
              clear fin k9 hgd htk
              simp only [List.length_nil] at *
              go_wp2_with fail
              refine K9.out.mono ?_
              rintro e w9 ⟨rfl, hb9⟩
              obtain ⟨hc9, hf9, hz9, hlt9, hle9⟩ := cellsIf hb9 (by (try simp); exact rfl)
              go_wp2
              refine bodyPost_ret (v := .tuple #[.agg #[.slice A2 xs2.length c2, .slice A3 xs3.length c3, .slice A5 xs5.length c5, .slice AO os.length cO], .nilIface]) (by simp [results, Tryd.results7, go_sem, ↓IntWalk.iteOmega, *]) rfl (FIN.out w9 hb9)
            · rw [erV_ne hc] at k9
              rw [if_neg hc] at hgd
              have HGD := Lib.hid hgd
              have HCC := Lib.hid hc
              have K9 := Lib.hid k9
              clear k9 hgd htk hc
              simp only [List.length_nil] at *
              go_wp2_with fail
              refine K9.out.mono ?_
              rintro e w9 ⟨rfl, hb9⟩
              obtain ⟨hc9, hf9, hz9, hlt9, hle9⟩ := cellsIf hb9 (by (try simp); exact rfl)
              go_wp2
              refine bodyPost_ret (v := .tuple #[.agg #[.slice none 0 0, .slice none 0 0, .slice none 0 0, .slice none 0 0], .iface 57 (.int .i64 (chkC ⟨xs2, xs3, xs5, os⟩))]) (by simp [results, Tryd.results7, go_sem, ↓IntWalk.iteOmega, *]) rfl (parRet_no HGD.out HCC.out (FROW.out w9 (HKB.out.trans (hb9.mono HKB.out.size)) _ _ _ _))
          | cons l6 r6 =>
            have k8 := pop_any (w.heap.size + 1 + 1) (w.heap.size + 1) o6 c6 l6 r6 wt.drew HI.out.par.drew
            have K8 := Lib.hid k8
            have lsl := HI.out.par.lenOf
            have HLS := Lib.hid lsl
            clear k8 lsl
            simp only [List.length_cons] at *
            go_wp2_with fail
            refine wp_region_G 5 (fun w' => w'.cell? ⟨w5.heap.size, 3, none⟩ = some (.slice AO os.length cO)) (by kernel_rfl) (by simpa using x3) ?_
            intro hG0
            refine wpS1 0 hG0 ?_; intro hG1; clear hG0
            refine wpS2 1 hG1 ?_; intro hG2; clear hG1
            refine wpS1 2 hG2 ?_; intro hG3; clear hG2
            refine wpAnyG_ready (rs := [3]) (by kernel_rfl) (by simp) (AllG.cons rfl hG3 (fun K hK => ?_) AllG.nil)
            (go_simp; refine K8.out.mono ?_; rintro e w8 ⟨x, A', C', c', d', o8, c8, ls8, b8, rfl, hs8, hf8, he8, hp8, hk8, hy8, hn8, hl8⟩; have hk8' : Kp1 (w.heap.size + 1 + 1) wt w8 := (Kb.refl _ wt).drew.trans hk8; have hb8 := HI.out.box.kb hk8' (by omega); have ho8 := own_kp HI.out.own hk8' (by omega); have z8 := hk8'.size)
            refine hK.out _ _ (Or.inr (hb8.cell 3 _ rfl)) (fun hG4 => wpN ?_); clear hK hG3
            refine wpAnyG_ready (rs := [4]) (by kernel_rfl) (by simp) (AllG.cons rfl hG4 (fun K hK => ?_) AllG.nil)
            (go_simp)
            refine hK.out _ _ (Or.inr ((hb8.up ((Below.refl _ _).alloc (Nat.le_refl _) (Obj.cells #[.string x.name, .int .i64 x.cost, .slice A' x.pre.length c', .slice C' x.effs.length d'] 47))).cell 3 _ rfl)) (fun hG5 => wpN ?_); clear hK hG4
            refine wpAnyG_ready (rs := [5]) (by kernel_rfl) (by simp) (AllG.cons rfl hG5 (fun K hK => ?_) AllG.nil)
            (refine step_append_src (by rfl) _ _ 25 (by rfl) wl.heap.size 47 infO (.agg #[.string ByteArray.empty, .int .i64 0, .slice none 0 0, .slice none 0 0]) 4 72 qundOp hiO oz0 oz1 oz2 rfl (by decide) (.slice AO os.length cO) os.length xv (by rfl) (by exact (ho8.alloc _)) (some ⟨w8.heap.size, 0, none⟩) 1 1 [.string x.name, .int .i64 x.cost, .slice A' x.pre.length c', .slice C' x.effs.length d'] (by rfl) (src_of (heap_alloc_new _ _) rfl (four_one rfl rfl rfl rfl)) (by unfold maxLen; have := HI.out.len; simp at this; omega) (by have := HI.out.len; simp at this; omega) (by first | omega | (simp; done) | (simp; omega)) ?_; intro v9 w9 hown9 hgrow9 hat9; obtain ⟨A9, c9, rfl⟩ := own_shape hown9; have hb9 := (hb8.up ((Below.refl _ _).alloc (Nat.le_refl _) (Obj.cells #[.string x.name, .int .i64 x.cost, .slice A' x.pre.length c', .slice C' x.effs.length d'] 47))).grown hgrow9 (fun e => by have := (HI.out.own.lt _ e).1; omega); have x93 := hb9.cell 3 _ rfl; have xf9 := hb9.fz 3; have xl9 := hb9.lt; have hI9 := ParI.next HI.out plt5 (by omega) hs8 hf8 he8 hp8 hk8' hy8 hn8 hl8 hown9 hgrow9 hat9; have HI9 := Lib.hid hI9)
            refine hK.out _ _ (Or.inl rfl) (fun hG6 => wpN ?_); clear hK hG5
            refine wpS1 6 hG6 ?_; intro hG7; clear hG6
            refine wpAnyG_ready (rs := [7]) (by kernel_rfl) (by simp) (AllG.cons rfl hG7 (fun K hK => ?_) AllG.nil)
            (go_simp)
            refine hK.out _ _ (Or.inl rfl) (fun hG8 => wpN ?_); clear hK hG7
            refine wpAnyG_done (by kernel_rfl) ?_ _; clear hG8
            go_wp2
            go_roundw
            case rel => exact ⟨_, _, _, _, _, _, _, HI9.out⟩
            case measure =>
              have e1 := HI9.out.par.lenOf
              have e2 := HLS.out
              simp only [List.length_cons] at e2 hl8
              omega
end Go.Proofs.YtbcbmpnikgeoeaaDoor

/- The parser's op. -/
import Derived.Test.YtbcbmpnikgeoeaaDoorMpH
namespace Go.Proofs.YtbcbmpnikgeoeaaDoor
set_option linter.unusedSimpArgs false
set_option linter.unusedVariables false
open Go Go.RowKit
set_option linter.unusedVariables false

theorem qinfoEf : (Tryd.prog.info? 53).map (fun i => (i.zero, i.size, i.bytes)) = some (some (.agg #[.slice none 0 0, .int .i64 0, .int .i64 0]), 3, 40) := by kernel_rfl
theorem qundEf : Tryd.prog.underlying 45 = some (.slice 53) := by kernel_rfl
/-- A number that is read as a world's measure: the lines that are left. -/
def lenOf (P : Nat) (w : World) : Nat := match w.cell? ⟨P, 0, none⟩ with | some (.slice _ n _) => n | _ => 0
theorem Par.lenOf {w : World} {P L o c : Nat} {ls : List (List UInt8)} {b : Bool} (h : Par w P L o c ls b) : lenOf P w = ls.length := by unfold Proofs.YtbcbmpnikgeoeaaDoor.lenOf; rw [h.c0]
theorem BxI.grown {w w' : World} {X : Nat} {T : TypeId} {cs : Array Value} {row : Option Nat} (h : BxI w X T cs) (hg : w.grownBy w' row) (hr : row ≠ some X) : BxI w' X T cs := (hg.block X h.lt (Ne.symm hr)).trans h
/-- The words behind eff. -/
def effV : List (List UInt8) → Option Eff
  | f :: r => match facW f with
    | some x => match r with
      | [] => some ⟨[], x.1, x.2⟩
      | [_] => none
      | i :: q => if i = wIf then (facsW q).map fun w => ⟨w, x.1, x.2⟩ else none
    | none => none
  | [] => none
theorem effW_V {l : List UInt8} (h : isW wEff l = true) : effW l = effV (pcs 32 l).tail := by
  unfold effW lineW
  rw [if_pos h]
  cases (pcs 32 l).tail <;> rfl
theorem effV_nil : effV [] = none := rfl
theorem effV_two (f i : List UInt8) : effV [f, i] = none := by cases e : facW f <;> simp [effV, e]
theorem effV_no {f i j : List UInt8} {q : List (List UInt8)} (h : i ≠ wIf) : effV (f :: i :: j :: q) = none := by cases e : facW f <;> simp [effV, e, h]
theorem effV_one (f : List UInt8) {x y : Int} (h : FacIs f (x, y)) : effV [f] = if (facW f).isNone = true then none else some ⟨[], x, y⟩ := by
  cases e : facW f with
  | none => simp [effV, e]
  | some z => have := h z e; subst this; simp [effV, e]
theorem effV_if (f j : List UInt8) (q : List (List UInt8)) {x y : Int} {xs : List (Int × Int)} (h : FacIs f (x, y)) (hx : ∀ g, facsW (j :: q) = some g → xs = g) :
    effV (f :: wIf :: j :: q) = if ((facW f).isNone || (facsW (j :: q)).isNone) = true then none else some ⟨xs, x, y⟩ := by
  cases e : facW f with
  | none => simp [effV, e]
  | some z =>
    have := h z e
    subst this
    cases e2 : facsW (j :: q) with
    | none => simp [effV, e, e2]
    | some g => rw [hx g e2]; simp [effV, e, e2]
theorem op_head {l : List UInt8} {r ws ls1 : List (List UInt8)} {ok fine f : Bool} {cs nm : List UInt8} {n : Int} {xs : List (Int × Int)}
    (how : opW l = if ok = true ∧ fine = true then (numW cs).map fun n => (n, nm) else none) (hn : NumIs cs n) (hl : lineR wPre r = (ws, ls1, f)) (hf : ∀ f, facsW ws = some f → xs = f) :
    (((((!ok || !fine) || (numW cs).isNone) || f) || (facsW ws).isNone) = true → opS (l :: r) = none) ∧
    (((((!ok || !fine) || (numW cs).isNone) || f) || (facsW ws).isNone) = false → opS (l :: r) = (effsW ls1).map fun x => (⟨bs nm, n, xs, x.1⟩, x.2)) := by
  have key : opS (l :: r) = if f = true then none else match opW l, facsW ws, effsW ls1 with
      | some c, some f, some x => some (⟨⟨c.2.toArray⟩, c.1, f, x.1⟩, x.2)
      | _, _, _ => none := by
    cases r with
    | nil => cases hl; rfl
    | cons p q =>
      by_cases hW : isW wPre p = true
      · have e : lineR wPre (p :: q) = ((pcs 32 p).tail, q, false) := by
          show (if isW wPre p = true then _ else _) = _
          rw [if_pos hW]
        rw [e] at hl
        cases hl
        have e2 : lineW wPre p = some (pcs 32 p).tail := by unfold lineW; rw [if_pos hW]
        rw [if_neg (by simp), opS, e2]
        rfl
      · have e : lineR wPre (p :: q) = ([], p :: q, true) := by
          show (if isW wPre p = true then _ else _) = _
          rw [if_neg hW]
        rw [e] at hl
        cases hl
        have e2 : lineW wPre p = none := by unfold lineW; rw [if_neg hW]
        rw [if_pos rfl, opS, e2]
        cases opW l <;> rfl
  rw [key, how]
  cases f
  · cases e1 : numW cs with
    | none => cases ok <;> cases fine <;> simp
    | some m =>
      have := hn m e1
      subst this
      cases e2 : facsW ws with
      | none => cases ok <;> cases fine <;> simp
      | some g =>
        have := hf g e2
        subst this
        cases ok <;> cases fine <;> cases effsW ls1 <;> simp <;> rfl
  · simp
theorem lineR_len (word : List UInt8) (r : List (List UInt8)) : (lineR word r).2.1.length ≤ r.length := by
  cases r with
  | nil => exact Nat.le_refl _
  | cons l r =>
    show (if isW word l = true then _ else _ : List (List UInt8) × List (List UInt8) × Bool).2.1.length ≤ _
    split
    · simp
    · exact Nat.le_refl _
theorem effsW_stop {ls : List (List UInt8)} (h : isR wEff ls = false) : effsW ls = some ([], ls) := by
  cases ls with
  | nil => rfl
  | cons l r =>
    rw [effsW, if_neg]
    show ¬ isR wEff (l :: r) = true
    rw [h]; decide
theorem fac_nil {w : World} {bad : Nat → Prop} {A : Option Addr} : Fac w bad A [] := ⟨by simp, fun h => absurd h (by simp)⟩
/-- The loop over the effects of an operator. -/
structure OpsI (P L O1 : Nat) (wl : World) (q : List (List UInt8)) (b0 : Bool) (v0 v1 v2 : Value) (wr : World) (o c : Nat) (ls : List (List UInt8)) (b : Bool) (es : List Eff) (E : Value) (xv : List Value) : Prop where
  own : wr.ownsRow wl.heap.size 53 3 E es.length xv
  efs : EfIs wr (fun g => g < wl.heap.size ∨ E.ownBlock = some g) xv es
  box : BxI wr O1 47 #[v0, v1, v2, E]
  par : Par wr P L o c ls b
  kb : Kb (fun g => g = P ∨ g = O1) wl wr
  yes : b = true → b0 = true ∨ effsW q = none
  no : b = false → b0 = false ∧ effsW q = (effsW ls).map fun x => (es ++ x.1, x.2)
  len : es.length + ls.length ≤ q.length
section
variable {P L O1 o c o2 c2 : Nat} {wl wr wx w9 : World} {q : List (List UInt8)} {b0 b : Bool} {v0 v1 v2 E v' : Value} {l : List UInt8} {r : List (List UInt8)} {es : List Eff} {xv : List Value}
theorem OpsI.next_bad (hI : OpsI P L O1 wl q b0 v0 v1 v2 wr o c (l :: r) false es E xv) (hP : P < O1) (hO : O1 < wl.heap.size) (hw : isW wEff l = true) (he : effW l = none) (hk : Kp1 P wr wx) (hp : Par wx P L o2 c2 r true) :
    OpsI P L O1 wl q b0 v0 v1 v2 wx o2 c2 r true es E xv where
  own := own_kp hI.own hk (by omega)
  efs := hI.efs.move ⟨hk.size, fun g hg hn => hk.block g hg (fun e => hn (.inl (by omega))), fun _ _ h => h⟩
  box := hI.box.kb hk (by omega)
  par := hp
  kb := hI.kb.trans ⟨hk.os, hk.tape, hk.output, hk.size, fun g hg hn => hk.block g hg (fun e => hn (.inl e))⟩
  yes := fun _ => .inr (by
    rw [(hI.no rfl).2, effsW, if_pos hw, he]
    rfl)
  no := fun h => nomatch h
  len := by have := hI.len; simp at this; omega
theorem OpsI.next_eff {whn : List (Int × Int)} {x y : Int} {S : Option Addr} {cS : Nat} (hI : OpsI P L O1 wl q b0 v0 v1 v2 wr o c (l :: r) false es E xv) (hP : P < O1) (hO : O1 < wl.heap.size) (hw : isW wEff l = true)
    (he : effW l = if b = true then none else some ⟨whn, x, y⟩) (hk : Kp1 P wr wx) (hp : Par wx P L o2 c2 r b) (hf : Fac wx (fun g => g < wr.heap.size) S whn) {ob : Obj}
    (hown : w9.ownsRow wl.heap.size 53 3 v' (es.length + 1) (xv ++ [.slice S whn.length cS, .int .i64 x, .int .i64 y])) (hg : (wx.alloc ob).grownBy w9 E.ownBlock) (hat : v'.ownBlock = E.ownBlock ∨ v'.ownBlock = some (wx.alloc ob).heap.size) :
    OpsI P L O1 wl q b0 v0 v1 v2 (w9.setCell ⟨O1, 3, none⟩ v') o2 c2 r b (es ++ [⟨whn, x, y⟩]) v' (xv ++ [.slice S whn.length cS, .int .i64 x, .int .i64 y]) where
  own := by
    rw [List.length_append]
    exact own_set hown hO
  efs := by
    have h1 : EfIs wx (fun g => g < wl.heap.size ∨ E.ownBlock = some g) xv es := hI.efs.move ⟨hk.size, fun g hg hn => hk.block g hg (fun e => hn (.inl (by omega))), fun _ _ h => h⟩
    have h2 : Fac wx (fun g => g < wl.heap.size ∨ E.ownBlock = some g) S whn := hf.move (Moves.mono fun g hg hb => by
      have := hI.kb.size
      rcases hb with hb | hb
      · show g < wr.heap.size; omega
      · have := (hI.own.lt g hb).2; exact this)
    have h3 := ((h1.push (e := ⟨whn, x, y⟩) (c := cS) h2).move (Moves.up ((Below.refl _ _).alloc (Nat.le_refl _) ob))).move (Moves.grownTo (lo := wl.heap.size) hg hat)
    exact h3.move (Moves.set (p := ⟨O1, 3, none⟩) v' (.inl hO))
  box := by
    have h1 := (hI.box.kb hk (by omega)).up ((Below.refl wx.heap.size wx).alloc (Nat.le_refl _) ob)
    have h2 := h1.grown hg (fun e => by have := (hI.own.lt O1 e).1; omega)
    exact h2.set 3 v'
  par := ((hp.alloc ob).grown hg (fun j hj => by have := (hI.own.lt j hj).1; omega)).far (p := ⟨O1, 3, none⟩) hP v'
  kb := by
    have h1 : Kb (fun g => g = P ∨ g = O1) wl wx := hI.kb.trans ⟨hk.os, hk.tape, hk.output, hk.size, fun g hg hn => hk.block g hg (fun e => hn (.inl e))⟩
    exact ((h1.alloc ob).grown hg (fun j hj => .inr (hI.own.lt j hj).1)).set (p := ⟨O1, 3, none⟩) (.inl (.inr rfl)) v'
  yes := fun hb => .inr (by
    rw [(hI.no rfl).2, effsW, if_pos hw, he, if_pos hb]
    rfl)
  no := fun hb => ⟨(hI.no rfl).1, by
    rw [(hI.no rfl).2, effsW, if_pos hw, he, if_neg (by rw [hb]; decide)]
    cases effsW r with
    | none => rfl
    | some z => simp⟩
  len := by have := hI.len; simp at this ⊢; omega
end
/-- What op answers. -/
def OpRet (P L : Nat) (ls : List (List UInt8)) (w : World) (e : Ending) (w' : World) : Prop :=
  ∃ (x : Opr) (A' C' : Option Addr) (c' d' o' c2 : Nat) (ls' : List (List UInt8)) (b' : Bool), e = .returned (.agg #[.string x.name, .int .i64 x.cost, .slice A' x.pre.length c', .slice C' x.effs.length d']) ∧ x.name.size ≤ 65536 ∧
    Fac w' (fun b => b < w.heap.size) A' x.pre ∧ Efs w' (fun b => b < w.heap.size) C' x.effs ∧ Par w' P L o' c2 ls' b' ∧ Kp1 P w w' ∧
    (b' = true → opS ls = none) ∧ (b' = false → opS ls = some (x, ls')) ∧ ls'.length < ls.length

set_option maxRecDepth 20000 in
set_option maxHeartbeats 4000000 in
theorem pop_any (P L o c : Nat) (l : List UInt8) (r : List (List UInt8)) (w : World) (hp : Par w P L o c (l :: r) false) :
    Calls Tryd.prog 22 #[.pointer (some ⟨P, 0, none⟩)] w (OpRet P L (l :: r) w) := by
  have plt := hp.lt
  have c0 := hp.c0
  have c1 := hp.c1
  have f0 := hp.fz 0
  have f1 := hp.fz 1
  have d0 := hp.at_ 0 (by simp)
  rw [show txt (l :: r) 0 = l from rfl] at d0
  have l0 := hp.low
  have hg : L < w.heap.size := by omega
  have l1 := hp.len
  have l2 := hp.cap
  have s3 := hp.sml l (by simp)
  have kcp := fun W => Tryd.strings_CutPrefix (bs l) ⟨#[111, 112, 32]⟩ W
  have e0 : (⟨(Lib.trimPrefix (bs l).data.toList (⟨#[111, 112, 32]⟩ : ByteArray).data.toList).toArray⟩ : ByteArray) = bs (Lib.trimPrefix l [111, 112, 32]) := rfl
  have e0' : Lib.hasPrefix (bs l).data.toList (⟨#[111, 112, 32]⟩ : ByteArray).data.toList = Lib.hasPrefix l [111, 112, 32] := rfl
  rw [e0, e0'] at kcp
  have lr : (Lib.trimPrefix l [111, 112, 32]).length ≤ 65536 := by
    unfold Lib.trimPrefix
    split
    · rw [List.length_drop]; omega
    · exact s3
  generalize hrest : Lib.trimPrefix l [111, 112, 32] = rest at *
  have kc := fun W (hE : EnvM W) => cut_any (bs rest) (bs [32]) W (by rw [bs_size]; omega) hE
  have e1 : cutA (bs rest) (bs [32]) = bs (Lib.cut rest [32]).1 := rfl
  have e2 : cutB (bs rest) (bs [32]) = bs (Lib.cut rest [32]).2.1 := rfl
  have e3 : cutC (bs rest) (bs [32]) = (Lib.cut rest [32]).2.2 := rfl
  rw [e1, e2, e3] at kc
  have lc : (Lib.cut rest [32]).1.length ≤ 65536 ∧ (Lib.cut rest [32]).2.1.length ≤ 65536 := by
    rcases at_or 32 rest with h | ⟨x, y, rfl, h⟩
    · rw [ct_no rest h]; exact ⟨lr, by simp⟩
    · rw [ct_at x y h]; simp at lr ⊢; omega
  obtain ⟨lc1, lc2⟩ := lc
  have how : opW l = if Lib.hasPrefix l [111, 112, 32] = true ∧ (Lib.cut rest [32]).2.2 = true then (numW (Lib.cut rest [32]).1).map fun n => (n, (Lib.cut rest [32]).2.1) else none := by
    unfold opW
    by_cases hh : Lib.hasPrefix l [111, 112, 32] = true
    · have : rest = l.drop 3 := by rw [← hrest]; unfold Lib.trimPrefix; rw [if_pos hh]; rfl
      rw [← this]
      rfl
    · rw [if_neg (fun h => hh h.1), if_neg (fun h => hh h.1)]
  generalize (Lib.cut rest [32]).1 = cs at *
  generalize (Lib.cut rest [32]).2.1 = nm at *
  generalize (Lib.cut rest [32]).2.2 = fine at *
  generalize Lib.hasPrefix l [111, 112, 32] = ok at *
  have HP := Lib.hid hp
  have KCP := Lib.hid kcp
  have KC := Lib.hid kc
  have HOW := Lib.hid how
  clear kc kcp e0 e0' e1 e2 e3 hrest how hp
  unfold bs at KC
  -- what holds behind region 4
  have fin : ∀ (b1 : Bool) (w1 : World), b1 = (!ok || !fine) → Below w.heap.size w w1 → ∀ (X : Array Value), BxI w1 w.heap.size 47 X → ∀ wq, wq = (w1.setCell ⟨P, 1, none⟩ (.bool b1)).setCell ⟨P, 0, none⟩ (.slice (some ⟨L, o + 1, none⟩) r.length (c - 1)) →
      Par wq P L (o + 1) (c - 1) r b1 ∧ Kp1 P w wq ∧ BxI wq w.heap.size 47 X := by
    rintro b1 w1 rfl hb X hx wq rfl
    exact ⟨((HP.out.up hb).bad _).cut, ((Kb.of_below hb).trans (Kp1.set _ _ _ _)).trans (Kp1.set _ _ _ _), (hx.far (by show w.heap.size ≠ P; omega) _).far (by show w.heap.size ≠ P; omega) _⟩
  have FI := Lib.hid fin
  clear fin
  simp only [List.length_cons, Nat.add_zero] at *
  go_enter Tryd.func22, Tryd.ntmps22
  go_wp2_with fail
  refine (KCP.out _).mono ?_
  rintro e w1 ⟨rfl, rfl⟩
  go_wp2_with fail; refine (KC.out _ (HP.out.env.env.m.up (by repeat (first | exact Below.refl _ _ | refine below_dN ?_ _ | refine Below.drew ?_ | refine Below.alloc ?_ (by first | omega | (simp; done) | (simp; omega)) _ | refine Below.setCell ?_ (by first | omega | (simp; done) | (simp; omega)) _ | refine below_step (by assumption) (by first | omega | (simp; done) | (simp; omega)) ?_)))).mono ?_; rintro e w2 ⟨rfl, hb2⟩; obtain ⟨hc2, hf2, hz2, hlt2, hle2⟩ := cellsIf hb2 (by (try simp); exact rfl); (try have : w.heap.size < w2.heap.size := (by omega)); (try have : w.heap.size < w2.heap.size + 1 := (by omega)); (try have : w.heap.size < w2.heap.size + 1 + 1 := (by omega)); (try have : w.heap.size + 1 < w2.heap.size := (by omega)); (try have : w.heap.size + 1 < w2.heap.size + 1 := (by omega)); (try have : w.heap.size + 1 < w2.heap.size + 1 + 1 := (by omega)); (try have : w.heap.size + 1 + 1 < w2.heap.size := (by omega)); (try have : w.heap.size + 1 + 1 < w2.heap.size + 1 := (by omega)); (try have : w.heap.size + 1 + 1 < w2.heap.size + 1 + 1 := (by omega)); (try have : w1.heap.size < w2.heap.size := (by omega)); (try have : w1.heap.size < w2.heap.size + 1 := (by omega)); (try have : w1.heap.size < w2.heap.size + 1 + 1 := (by omega)); (try have : w1.heap.size + 1 < w2.heap.size := (by omega)); (try have : w1.heap.size + 1 < w2.heap.size + 1 := (by omega)); (try have : w1.heap.size + 1 < w2.heap.size + 1 + 1 := (by omega)); (try have : w1.heap.size + 1 + 1 < w2.heap.size := (by omega)); (try have : w1.heap.size + 1 + 1 < w2.heap.size + 1 := (by omega)); (try have : w1.heap.size + 1 + 1 < w2.heap.size + 1 + 1 := (by omega))
  go_upto_region 3 with fail
  go_cut [] (fun wx => wx = w2.setCell ⟨P, 1, none⟩ (.bool (!ok || !fine)))
  case first =>
    cases ok <;> cases fine
    all_goals
      go_wp2
      go_meet
      rfl
  case rest =>
    subst hcut
    go_wp2_with fail
    obtain ⟨wq, hwq⟩ : ∃ wq : World, (w2.setCell ⟨P, 1, none⟩ (.bool (!ok || !fine))).setCell ⟨P, 0, none⟩ (.slice (some ⟨L, o + 1, none⟩) r.length (c - 1)) = wq := ⟨_, rfl⟩
    obtain ⟨hp1, hk1, hx1⟩ := FI.out (!ok || !fine) w2 (by rfl) (by repeat (first | exact Below.refl _ _ | refine below_dN ?_ _ | refine Below.drew ?_ | refine Below.alloc ?_ (by first | omega | (simp; done) | (simp; omega)) _ | refine Below.setCell ?_ (by first | omega | (simp; done) | (simp; omega)) _ | refine below_step (by assumption) (by first | omega | (simp; done) | (simp; omega)) ?_)) _ ((BxI.new w 47 _).up hb2) wq hwq.symm
    rw [hwq]
    clear hwq hc2 hf2 hb2 c0 c1 f0 f1 d0
    refine (pnum_any P L (o + 1) (c - 1) r _ cs wq hp1 lc1).mono ?_
    rintro e w3 ⟨n, rfl, hn, hp3, hk3⟩
    have hx3 := hx1.kb hk3 (by omega)
    have hk13 := hk1.trans hk3
    have hz3 := hk13.size
    clear hp1 hk1 hk3 hx1
    have hxl := hx3.lt
    have HN := Lib.hid hn
    have HP3 := Lib.hid hp3
    have HK3 := Lib.hid hk13
    have HX3 := Lib.hid hx3
    clear hn hp3 hk13 hx3
    have hlen : (Obj.cells #[Value.string { data := nm.toArray }, Value.int IntKind.i64 n, Value.slice none 0 0, Value.slice none 0 0] 47) = (Obj.cells #[Value.string (bs nm), Value.int IntKind.i64 n, Value.slice none 0 0, Value.slice none 0 0] 47) := rfl
    go_wp2_with fail
    (try rw [hlen])
    have k4 := pline_any P L (o + 1) (c - 1) r ((!ok || !fine) || (numW cs).isNone) wPre (w3.alloc (Obj.cells #[Value.string (bs nm), Value.int IntKind.i64 n, Value.slice none 0 0, Value.slice none 0 0] 47)) (HP3.out.alloc _) (by decide) (by decide)
    cases hlr : lineR wPre r with
    | mk ws y =>
      obtain ⟨ls1, f⟩ := y
      rw [hlr] at k4
      have HLR := Lib.hid hlr
      clear hlr hlen
      refine k4.mono ?_
      rintro e w4 ⟨A4, c4, o4, d4, rfl, hc4, hs4, hp4, hk4⟩
      clear k4
      dsimp only at hc4 hs4 hp4
      have hx4 := (BxI.new w3 47 #[Value.string (bs nm), Value.int IntKind.i64 n, Value.slice none 0 0, Value.slice none 0 0]).kb hk4 (by omega)
      have hz4 := hk4.size
      simp only [World.size_alloc] at hz4
      have HS4 := Lib.hid hs4
      have HP4 := Lib.hid hp4
      have HK4 := Lib.hid hk4
      have HX4 := Lib.hid hx4
      clear hs4 hp4 hk4 hx4
      go_wp2_with fail
      refine (pfacts2_any P L o4 d4 ls1 _ ws A4 c4 w4 HP4.out HS4.out).mono ?_
      rintro e w5 ⟨A5, c5, xs, rfl, hA5, hxl5, hxs, hf5, hp5, hk5⟩
      have hx5 := HX4.out.kb hk5 (by omega)
      have hz5 := hk5.size
      have HH := Lib.hid (op_head HOW.out HN.out HLR.out hxs)
      have c50 := hx5.cell 0 _ rfl
      have c51 := hx5.cell 1 _ rfl
      have c52 := hx5.cell 2 _ rfl
      have c53 := hx5.cell 3 _ rfl
      have f5z := hx5.fz 2
      have HX5 := Lib.hid hx5
      have HP5 := Lib.hid hp5
      have HK5 := Lib.hid (((HK3.out.alloc _).trans HK4.out).trans hk5)
      have HF5 := Lib.hid hf5
      have HR5 := Lib.hid (((HX3.out.up ((Below.refl _ _).alloc (Nat.le_refl _) (Obj.cells #[Value.string (bs nm), Value.int IntKind.i64 n, Value.slice none 0 0, Value.slice none 0 0] 47))).kb HK4.out (by omega)).kb hk5 (by omega))
      have HL5 := Lib.hid hxl5
      clear hx5 hp5 hk5 hf5 hxs hxl5
      go_wp2
      obtain ⟨wl, hwl⟩ : ∃ wl : World, w5.setCell ⟨w3.heap.size, 2, none⟩ (.slice A5 xs.length c5) = wl := ⟨_, rfl⟩
      have hwz : wl.heap.size = w5.heap.size := by rw [← hwl]; simp [World.setCell]
      have hpl := HP5.out.far (p := ⟨w3.heap.size, 2, none⟩) (by show P < w3.heap.size; omega) (.slice A5 xs.length c5)
      have hxl : BxI _ w3.heap.size 47 #[Value.string (bs nm), Value.int IntKind.i64 n, .slice A5 xs.length c5, Value.slice none 0 0] := HX5.out.set 2 (.slice A5 xs.length c5)
      have hkl := HK5.out.set (p := ⟨w3.heap.size, 2, none⟩) (.inr (by show w.heap.size ≤ w3.heap.size; omega)) (.slice A5 xs.length c5)
      have hfl := HF5.out.move (Moves.set (p := ⟨w3.heap.size, 2, none⟩) (.slice A5 xs.length c5) (show w3.heap.size < w4.heap.size by omega))
      have hr0 := (HR5.out.far (p := ⟨w3.heap.size, 2, none⟩) (by show w.heap.size ≠ w3.heap.size; omega) (.slice A5 xs.length c5))
      rw [hwl] at hr0 hpl hxl hkl hfl ⊢
      generalize hb0 : (((((!ok || !fine) || (numW cs).isNone) || f) || (facsW ws).isNone)) = b0 at *
      have HR0 := Lib.hid hr0
      have HPL := Lib.hid hpl
      have HXL := Lib.hid hxl
      have HKL := Lib.hid hkl
      have HFL := Lib.hid hfl
      clear hpl hxl hkl hfl hwl hr0 c50 c51 c52 c53 f5z hb0
      have qlen : ls1.length ≤ 65537 := HPL.out.len
      have hpw : P < w3.heap.size := by omega
      have how : w3.heap.size < wl.heap.size := by omega
      obtain ⟨infE, hiE, ez0, ez1, ez2⟩ := info_parts qinfoEf
      have fin : ∀ (wt : World) (o c : Nat) (ls : List (List UInt8)) (b : Bool) (es : List Eff) (A : Option Addr) (cA : Nat) (xv : List Value), OpsI P L w3.heap.size wl ls1 b0 (.string (bs nm)) (.int .i64 n) (.slice A5 xs.length c5) wt o c ls b es (.slice A es.length cA) xv → (b = true ∨ isR wEff ls = false) →
          OpRet P L (l :: r) w (.returned (.agg #[.string (bs nm), .int .i64 n, .slice A5 xs.length c5, .slice A es.length cA])) ((((wt.setCell ⟨w.heap.size, 0, none⟩ (.string (bs nm))).setCell ⟨w.heap.size, 1, none⟩ (.int .i64 n)).setCell ⟨w.heap.size, 2, none⟩ (.slice A5 xs.length c5)).setCell ⟨w.heap.size, 3, none⟩ (.slice A es.length cA)) := by
        intro wt o c ls b es A cA xv hI hb
        have hR : w.heap.size < w3.heap.size := by omega
        have hm : Moves wt ((((wt.setCell ⟨w.heap.size, 0, none⟩ (.string (bs nm))).setCell ⟨w.heap.size, 1, none⟩ (.int .i64 n)).setCell ⟨w.heap.size, 2, none⟩ (.slice A5 xs.length c5)).setCell ⟨w.heap.size, 3, none⟩ (.slice A es.length cA)) (fun g => g < w.heap.size + 1) (fun g => g < w.heap.size) :=
          ((((Moves.set (p := ⟨w.heap.size, 0, none⟩) _ (Nat.lt_succ_self _)).trans (Moves.set (p := ⟨w.heap.size, 1, none⟩) _ (Nat.lt_succ_self _))).trans (Moves.set (p := ⟨w.heap.size, 2, none⟩) _ (Nat.lt_succ_self _))).trans (Moves.set (p := ⟨w.heap.size, 3, none⟩) _ (Nat.lt_succ_self _))).trans (Moves.mono fun g _ h => Nat.lt_succ_of_lt h)
        have hm1 : Moves wl wt (fun g => g < w4.heap.size) (fun g => g < w.heap.size + 1) := ⟨hI.kb.size, fun g hg hn => hI.kb.block g hg (fun e => hn (by show g < w4.heap.size; omega)), fun g _ h => by show g < w4.heap.size; have : g < w.heap.size + 1 := h; omega⟩
        have he1 : EfIs wt (fun g => g < w.heap.size + 1) xv es := hI.efs.move (Moves.mono fun g _ h => .inl (by have : g < w.heap.size + 1 := h; omega))
        obtain ⟨A2, cA2, e1, e2, e3⟩ := he1.efs hI.own (by have := hI.len; omega) (fun g h1 h2 h3 => by have : g < w.heap.size + 1 := h3; omega)
        have e4 : A2 = A ∧ cA2 = cA := by injection e1 with h1 _ h2; exact ⟨h1.symm, h2.symm⟩
        rw [e4.1] at e3
        refine ⟨⟨bs nm, n, xs, es⟩, A5, A, c5, cA, o, c, ls, b, rfl, by rw [bs_size]; exact lc2, (HFL.out.move hm1).move hm, e3.move hm, ?_, ?_, ?_, ?_, ?_⟩
        · exact (((hI.par.far (p := ⟨w.heap.size, 0, none⟩) plt _).far (p := ⟨w.heap.size, 1, none⟩) plt _).far (p := ⟨w.heap.size, 2, none⟩) plt _).far (p := ⟨w.heap.size, 3, none⟩) plt _
        · have h1 : Kp1 P w wt := ⟨hI.kb.os.trans HKL.out.os, hI.kb.tape.trans HKL.out.tape, hI.kb.output.trans HKL.out.output, Nat.le_trans HKL.out.size hI.kb.size, fun g hg hn => (hI.kb.block g (Nat.lt_of_lt_of_le hg HKL.out.size) (fun e => by rcases e with e | e; exact hn e; omega)).trans (HKL.out.block g hg hn)⟩
          exact Kb.set (Kb.set (Kb.set (Kb.set h1 (p := ⟨w.heap.size, 0, none⟩) (.inr (Nat.le_refl _)) _) (p := ⟨w.heap.size, 1, none⟩) (.inr (Nat.le_refl _)) _) (p := ⟨w.heap.size, 2, none⟩) (.inr (Nat.le_refl _)) _) (p := ⟨w.heap.size, 3, none⟩) (.inr (Nat.le_refl _)) _
        · intro h
          rcases hI.yes h with h1 | h1
          · exact HH.out.1 h1
          · cases hb0 : b0 with
            | true => exact HH.out.1 hb0
            | false => rw [HH.out.2 hb0, h1]; rfl
        · intro h
          obtain ⟨h1, h2⟩ := hI.no h
          rw [HH.out.2 h1, h2, effsW_stop (by rcases hb with hb | hb; rw [hb] at h; cases h; exact hb)]
          simp
        · have h1 := lineR_len wPre r
          rw [HLR.out] at h1
          have h2 : ls1.length ≤ r.length := h1
          have := hI.len
          rw [List.length_cons]
          omega
      have FIN := Lib.hid fin
      clear fin
      go_loopw [] (fun wr => ∃ (o c : Nat) (ls : List (List UInt8)) (b : Bool) (es : List Eff) (E : Value) (xv : List Value), OpsI P L w3.heap.size wl ls1 b0 (.string (bs nm)) (.int .i64 n) (.slice A5 xs.length c5) wr o c ls b es E xv) (fun wr => lenOf P wr)
      case atStart => exact ⟨_, _, ls1, b0, [], .slice none 0 0, [], World.ownsRow_nil _ _ _ _, EfIs.nil _ _, HXL.out, HPL.out, Kb.refl _ _, fun h => .inl h, fun h => ⟨h, by cases effsW ls1 <;> rfl⟩, by simp⟩
      case round =>
        obtain ⟨o6, c6, ls, b, es, E, xv, hI⟩ := hrel
        obtain ⟨wt, rfl⟩ : ∃ wt : World, wt = wr := ⟨_, rfl⟩
        have HI := Lib.hid hI
        have k0 := hI.par.c0
        have k1 := hI.par.c1
        have g1 := hI.par.lt
        have z1 := hI.kb.size
        obtain ⟨AE, cE, rfl⟩ := own_shape hI.own
        have x0 := hI.box.cell 0 _ rfl
        have x1 := hI.box.cell 1 _ rfl
        have x2 := hI.box.cell 2 _ rfl
        have x3 := hI.box.cell 3 _ rfl
        have xl := hI.box.lt
        have hrt := HR0.out.kb hI.kb (by omega)
        have y0 := hrt.cell 0 _ rfl
        have y1 := hrt.cell 1 _ rfl
        have y2 := hrt.cell 2 _ rfl
        have y3 := hrt.cell 3 _ rfl
        have yf := hrt.fz
        have yl := hrt.lt
        have HRT := Lib.hid hrt
        clear hI hrt
        cases b with
        | true =>
          go_wp2
          refine bodyPost_ret (v := .agg #[.string (bs nm), .int .i64 n, .slice A5 xs.length c5, .slice AE es.length cE]) (by simp [results, Tryd.results22, go_sem, ↓IntWalk.iteOmega, *]) rfl (FIN.out _ _ _ _ _ _ _ _ _ HI.out (.inl rfl))
        | false =>
          have k6 := pis_any P L o6 c6 ls false wEff wt HI.out.par (by decide) (by decide)
          cases hr : isR wEff ls with
          | false =>
            rw [hr] at k6
            have K6 := Lib.hid k6
            clear k6
            go_wp2_with fail
            refine K6.out.mono ?_
            rintro e w2 ⟨rfl, rfl⟩
            go_wp2
            refine bodyPost_ret (v := .agg #[.string (bs nm), .int .i64 n, .slice A5 xs.length c5, .slice AE es.length cE]) (by simp [results, Tryd.results22, go_sem, ↓IntWalk.iteOmega, *]) rfl (FIN.out _ _ _ _ _ _ _ _ _ HI.out (.inr hr))
          | true =>
            rw [hr] at k6
            cases ls with
            | nil => cases hr
            | cons l1' r1 =>
              have hW : isW wEff l1' = true := hr
              have heW := effW_V hW
              have k7 := pline_any P L o6 c6 (l1' :: r1) false wEff wt HI.out.par (by decide) (by decide)
              have e7 : lineR wEff (l1' :: r1) = ((pcs 32 l1').tail, r1, false) := by
                show (if isW wEff l1' = true then _ else _) = _
                rw [if_pos hW]
              rw [e7] at k7
              generalize (pcs 32 l1').tail = ws1 at *
              have HW := Lib.hid hW
              have HEW := Lib.hid heW
              have K6 := Lib.hid k6
              have K7 := Lib.hid k7
              have lsl := HI.out.par.lenOf
              have HLS := Lib.hid lsl
              clear k6 k7 e7 hW heW hr lsl
              simp only [List.length_cons] at *
              go_wp2_with fail
              refine K6.out.mono ?_
              rintro e w2 ⟨rfl, rfl⟩
              go_wp2_with fail
              refine K7.out.mono ?_
              rintro e w6 ⟨A6, cA6, o7, c7, rfl, hc6, hs6, hp6, hk6⟩
              dsimp only at hc6 hs6 hp6
              simp only [Bool.or_false] at hp6
              have z6 := hk6.size
              have p6 := hp6.lt
              have p60 := hp6.c1
              have p61 := hp6.fz 1
              have hb6 := HI.out.box.kb hk6 (by omega)
              have hr6 := HRT.out.kb hk6 (by omega)
              have HB6 := Lib.hid hb6
              have HR6 := Lib.hid hr6
              have HP6 := Lib.hid hp6
              have HK6 := Lib.hid hk6
              clear hp6 hk6 hb6 hr6 x0 x1 x2 x3 y0 y1 y2 y3 yf k0 k1
              match ws1, HEW, hc6, hs6 with
              | [], HEW, hc6, hs6 =>
                simp only [List.length_nil, List.length_cons] at *
                have x0 := HB6.out.cell 0 _ rfl
                have x1 := HB6.out.cell 1 _ rfl
                have x2 := HB6.out.cell 2 _ rfl
                have x3 := HB6.out.cell 3 _ rfl
                have y0 := HR6.out.cell 0 _ rfl
                have y1 := HR6.out.cell 1 _ rfl
                have y2 := HR6.out.cell 2 _ rfl
                have y3 := HR6.out.cell 3 _ rfl
                have yf := HR6.out.fz
                go_wp2
                refine bodyPost_ret (v := .agg #[.string (bs nm), .int .i64 n, .slice A5 xs.length c5, .slice AE es.length cE]) (by simp [results, Tryd.results22, go_sem, ↓IntWalk.iteOmega, *]) rfl (FIN.out _ _ _ _ _ _ _ _ _ (OpsI.next_bad HI.out hpw how HW.out (HEW.out) (Kb.set HK6.out (p := ⟨P, 1, none⟩) (.inl rfl) _) (HP6.out.bad true)) (.inl rfl))
              | [f1], HEW, hc6, hs6 =>
                obtain ⟨b6, of6, rfl, hb6l, hb6n, hd60⟩ := hs6.at_ (k := 0) (by simp)
                rw [show txt [f1] 0 = f1 from rfl] at hd60
                have hsf := hs6.small (k := 0) (by simp)
                rw [show txt [f1] 0 = f1 from rfl] at hsf
                clear hs6
                simp only [List.length_nil, List.length_cons, Nat.add_zero] at *
                go_wp2_with fail
                refine (pfact_any P L o7 c7 r1 false f1 w6 HP6.out hsf).mono ?_
                rintro e w7 ⟨x, y, rfl, hx, hp7, hk7⟩
                have z7 := hk7.size
                have hb7 := HB6.out.kb hk7 (by omega)
                have x3 := hb7.cell 3 _ rfl
                have xf := hb7.fz 3
                have xl7 := hb7.lt
                have ho7 := own_kp (own_kp HI.out.own HK6.out (by omega)) hk7 (by omega)
                have HO7 := Lib.hid ho7
                have HX := Lib.hid hx
                have HB7 := Lib.hid hb7
                have HP7 := Lib.hid hp7
                have HK7 := Lib.hid (HK6.out.trans hk7)
                clear hx hp7 hk7 hb7 ho7
                go_wp2_with (at_builtin; refine wpList_push rfl _ _ 45 rfl wl.heap.size 53 infE (.agg #[.slice none 0 0, .int .i64 0, .int .i64 0]) 3 40 qundEf hiE ez0 ez1 ez2 rfl (by decide) (by decide) _ es.length xv rfl (((HO7.out.alloc _).alloc _).alloc _) (w7.heap.size + 1 + 1) 53 [.slice none 0 0, .int .i64 x, .int .i64 y] rfl rfl (by have h9 := heap_alloc_new ((w7.alloc (Obj.cells #[.int .i64 x, .int .i64 y] 51)).alloc (Obj.cells #[.slice none 0 0, .int .i64 x, .int .i64 y] 53)) (Obj.cells #[.slice none 0 0, .int .i64 x, .int .i64 y] 53); simp only [World.size_alloc, World.size_setCell] at h9; exact h9) (three_one rfl rfl rfl) (by have := HI.out.len; simp at this; omega) (by first | omega | (simp; omega)) (B := 0) (Below.refl 0 _) (by omega) ?_; intro v' w9 hown' hgrow hat _; obtain ⟨A9, c9, rfl⟩ := own_shape hown'; have hb9 := (((HB7.out.up ((Below.refl _ _).alloc (Nat.le_refl _) (Obj.cells #[.int .i64 x, .int .i64 y] 51))).up ((Below.refl _ _).alloc (Nat.le_refl _) (Obj.cells #[.slice none 0 0, .int .i64 x, .int .i64 y] 53))).up ((Below.refl _ _).alloc (Nat.le_refl _) (Obj.cells #[.slice none 0 0, .int .i64 x, .int .i64 y] 53))).grown hgrow (fun e => by have := (HI.out.own.lt _ e).1; omega); have xb3 := hb9.cell 3 _ rfl; have xf9 := hb9.fz 3; have xl9 := hb9.lt; have hI9 := OpsI.next_eff (b := _) (cS := 0) HI.out hpw how HW.out (by rw [HEW.out, effV_one f1 HX.out]; rfl) ((HK7.out.alloc _).alloc _) ((HP7.out.alloc _).alloc _) fac_nil hown' hgrow hat; have HI9 := Lib.hid hI9; clear hI9 hown' hgrow hat hb9)
                go_roundw
                case rel => exact ⟨_, _, r1, _, _, _, _, HI9.out⟩
                case measure =>
                  have e1 := HI9.out.par.lenOf
                  have e2 := HLS.out
                  (try simp only [List.length_cons] at e2)
                  omega
              | [f1, i1], HEW, hc6, hs6 =>
                simp only [List.length_nil, List.length_cons] at *
                have x0 := HB6.out.cell 0 _ rfl
                have x1 := HB6.out.cell 1 _ rfl
                have x2 := HB6.out.cell 2 _ rfl
                have x3 := HB6.out.cell 3 _ rfl
                have y0 := HR6.out.cell 0 _ rfl
                have y1 := HR6.out.cell 1 _ rfl
                have y2 := HR6.out.cell 2 _ rfl
                have y3 := HR6.out.cell 3 _ rfl
                have yf := HR6.out.fz
                go_wp2
                refine bodyPost_ret (v := .agg #[.string (bs nm), .int .i64 n, .slice A5 xs.length c5, .slice AE es.length cE]) (by simp [results, Tryd.results22, go_sem, ↓IntWalk.iteOmega, *]) rfl (FIN.out _ _ _ _ _ _ _ _ _ (OpsI.next_bad HI.out hpw how HW.out (HEW.out.trans (effV_two f1 i1)) (Kb.set HK6.out (p := ⟨P, 1, none⟩) (.inl rfl) _) (HP6.out.bad true)) (.inl rfl))
              | f1 :: i1 :: j1 :: q1, HEW, hc6, hs6 =>
                have h2 := hs6.at_ (k := 1) (by simp)
                obtain ⟨b6, of6, rfl, hb6l, hb6n, hd6⟩ := h2
                obtain ⟨_, _, e0, _, _, hd60⟩ := hs6.at_ (k := 0) (by simp)
                injection e0 with e0
                injection e0 with e01 e02 _
                subst e01 e02
                rw [show txt (f1 :: i1 :: j1 :: q1) 1 = i1 from rfl] at hd6
                rw [show txt (f1 :: i1 :: j1 :: q1) 0 = f1 from rfl] at hd60
                have hbq := beq_bs i1 wIf
                have hbi : (⟨#[105, 102]⟩ : ByteArray) = bs wIf := rfl
                have HS6 := Lib.hid hs6
                clear hs6
                simp only [List.length_nil, List.length_cons, Nat.add_zero] at *
                have hq0 : ((q1.length : Int) + 1 + 1 + 1 == 0) = false := by rw [beq_eq_false_iff_ne]; omega
                have hq2 : ((q1.length : Int) + 1 + 1 + 1 == 2) = false := by rw [beq_eq_false_iff_ne]; omega
                by_cases hi1 : i1 = wIf
                · have hsf := HS6.out.small (k := 0) (by simp)
                  rw [show txt (f1 :: i1 :: j1 :: q1) 0 = f1 from rfl] at hsf
                  have hsd : StrsAt w6 (fun b => b = P) (some ⟨b6, of6 + 2, none⟩) (j1 :: q1) := HS6.out.drop 2
                  have HSD := Lib.hid hsd
                  clear hsd
                  rw [decide_eq_true hi1] at hbq
                  have HI1 := Lib.hid hi1
                  clear hi1
                  go_wp2_with fail
                  refine (pfact_any P L o7 c7 r1 false f1 w6 HP6.out hsf).mono ?_
                  rintro e w7 ⟨x, y, rfl, hx, hp7, hk7⟩
                  have z7 := hk7.size
                  have hb7 := HB6.out.kb hk7 (by omega)
                  have ho7 := own_kp (own_kp HI.out.own HK6.out (by omega)) hk7 (by omega)
                  have hsd7 := ((HSD.out.move hk7.moves).up ((Below.refl _ _).alloc (Nat.le_refl _) (Obj.cells #[.int .i64 x, .int .i64 y] 51))).up ((Below.refl _ _).alloc (Nat.le_refl _) (Obj.cells #[.slice none 0 0, .int .i64 x, .int .i64 y] 53))
                  have HSD7 := Lib.hid hsd7
                  have HO7 := Lib.hid ho7
                  have HX := Lib.hid hx
                  have HB7 := Lib.hid hb7
                  have HP7 := Lib.hid hp7
                  have HK7 := Lib.hid (HK6.out.trans hk7)
                  have xl7 := hb7.lt
                  clear hx hp7 hk7 hb7 ho7 hsd7
                  go_wp2_with fail
                  refine (pfacts2_any P L o7 c7 r1 _ (j1 :: q1) (some ⟨b6, of6 + 2, none⟩) (cA6 - 2) ((w7.alloc (Obj.cells #[.int .i64 x, .int .i64 y] 51)).alloc (Obj.cells #[.slice none 0 0, .int .i64 x, .int .i64 y] 53)) ((HP7.out.alloc _).alloc _) HSD7.out).mono ?_
                  rintro e w8 ⟨S, cS, ys, rfl, hS, hyl, hys, hf8, hp8, hk8⟩
                  have z8 := hk8.size
                  have hbE := (BxI.new (w7.alloc (Obj.cells #[.int .i64 x, .int .i64 y] 51)) 53 #[.slice none 0 0, .int .i64 x, .int .i64 y]).kb hk8 (by simp; omega)
                  simp only [World.size_alloc] at z8 hbE hf8
                  have e0 := hbE.cell 0 _ rfl
                  have e1 := hbE.cell 1 _ rfl
                  have e2 := hbE.cell 2 _ rfl
                  have ef := hbE.fz 0
                  have hb8 := ((((HB7.out.up ((Below.refl _ _).alloc (Nat.le_refl _) (Obj.cells #[.int .i64 x, .int .i64 y] 51))).up ((Below.refl _ _).alloc (Nat.le_refl _) (Obj.cells #[.slice none 0 0, .int .i64 x, .int .i64 y] 53))).kb hk8 (by omega)).far (p := ⟨w7.heap.size + 1, 0, none⟩) (by show w3.heap.size ≠ w7.heap.size + 1; omega) (.slice S ys.length cS))
                  have ho8 := own_set' (p := ⟨w7.heap.size + 1, 0, none⟩) (u := .slice S ys.length cS) (own_kp ((HO7.out.alloc (Obj.cells #[.int .i64 x, .int .i64 y] 51)).alloc (Obj.cells #[.slice none 0 0, .int .i64 x, .int .i64 y] 53)) hk8 (by omega)) (fun e => by have := (HO7.out.lt _ e).2; have e' : w7.heap.size + 1 < w7.heap.size := this; omega)
                  have hk8' : Kp1 P wt _ := Kb.set (((HK7.out.alloc (Obj.cells #[.int .i64 x, .int .i64 y] 51)).alloc (Obj.cells #[.slice none 0 0, .int .i64 x, .int .i64 y] 53)).trans hk8) (p := ⟨w7.heap.size + 1, 0, none⟩) (.inr (by show wt.heap.size ≤ w7.heap.size + 1; omega)) (.slice S ys.length cS)
                  have hp8' := hp8.far (p := ⟨w7.heap.size + 1, 0, none⟩) (by show P < w7.heap.size + 1; omega) (.slice S ys.length cS)
                  have hf8' := hf8.move ((Moves.set (p := ⟨w7.heap.size + 1, 0, none⟩) (.slice S ys.length cS) (show w7.heap.size + 1 < w7.heap.size + 1 + 1 by omega)).trans (Moves.mono (bad' := fun g => g < wt.heap.size) fun g _ h => by have : g < wt.heap.size := h; show g < w7.heap.size + 1 + 1; omega))
                  have x3 := hb8.cell 3 _ rfl
                  rw [World.cell?_setCell_other _ _ _ _ (by first | (simp; done) | (simp; omega))] at x3
                  have WZ := Lib.hid (show (w8.setCell ⟨w7.heap.size + 1, 0, none⟩ (.slice S ys.length cS)).heap.size = w8.heap.size by simp [World.setCell])
                  have HV := Lib.hid (effV_if f1 j1 q1 HX.out hys)
                  have HB8 := Lib.hid hb8
                  have HO8 := Lib.hid ho8
                  have HK8 := Lib.hid hk8'
                  have HP8 := Lib.hid hp8'
                  have HF8 := Lib.hid hf8'
                  have x38 := HB8.out.lt
                  have HYL := Lib.hid hyl
                  clear hb8 ho8 hk8 hk8' hp8 hp8' hf8 hf8' hbE hys hyl
                  go_wp2_with (at_builtin; refine wpList_push rfl _ _ 45 rfl wl.heap.size 53 infE (.agg #[.slice none 0 0, .int .i64 0, .int .i64 0]) 3 40 qundEf hiE ez0 ez1 ez2 rfl (by decide) (by decide) _ es.length xv rfl (HO8.out.alloc _) (w8.heap.size) 53 [.slice S ys.length cS, .int .i64 x, .int .i64 y] rfl rfl (by have h9 := heap_alloc_new (w8.setCell ⟨w7.heap.size + 1, 0, none⟩ (.slice S ys.length cS)) (Obj.cells #[.slice S ys.length cS, .int .i64 x, .int .i64 y] 53); rw [WZ.out] at h9; exact h9) (three_one rfl rfl rfl) (by have := HI.out.len; simp at this; omega) (by first | omega | (simp; omega)) (B := 0) (Below.refl 0 _) (by omega) ?_; intro v' w9 hown' hgrow hat _; obtain ⟨A9, c9, rfl⟩ := own_shape hown'; have hb9 := (HB8.out.up ((Below.refl _ _).alloc (Nat.le_refl _) (Obj.cells #[.slice S ys.length cS, .int .i64 x, .int .i64 y] 53))).grown hgrow (fun e => by have := (HI.out.own.lt _ e).1; omega); have xb3 := hb9.cell 3 _ rfl; have xf9 := hb9.fz 3; have xl9 := hb9.lt; have hI9 := OpsI.next_eff (b := _) (cS := cS) HI.out hpw how HW.out (by rw [HEW.out, HI1.out, HV.out]; rfl) HK8.out HP8.out HF8.out hown' hgrow hat; have HI9 := Lib.hid hI9; clear hI9 hown' hgrow hat hb9)
                  go_roundw
                  case rel => exact ⟨_, _, r1, _, _, _, _, HI9.out⟩
                  case measure =>
                    have e1 := HI9.out.par.lenOf
                    have e2 := HLS.out
                    (try simp only [List.length_cons] at e2)
                    omega
                · rw [decide_eq_false hi1] at hbq
                  have x0 := HB6.out.cell 0 _ rfl
                  have x1 := HB6.out.cell 1 _ rfl
                  have x2 := HB6.out.cell 2 _ rfl
                  have x3 := HB6.out.cell 3 _ rfl
                  have y0 := HR6.out.cell 0 _ rfl
                  have y1 := HR6.out.cell 1 _ rfl
                  have y2 := HR6.out.cell 2 _ rfl
                  have y3 := HR6.out.cell 3 _ rfl
                  have yf := HR6.out.fz
                  go_wp2
                  refine bodyPost_ret (v := .agg #[.string (bs nm), .int .i64 n, .slice A5 xs.length c5, .slice AE es.length cE]) (by simp [results, Tryd.results22, go_sem, ↓IntWalk.iteOmega, *]) rfl (FIN.out _ _ _ _ _ _ _ _ _ (OpsI.next_bad HI.out hpw how HW.out (HEW.out.trans (effV_no hi1)) (Kb.set HK6.out (p := ⟨P, 1, none⟩) (.inl rfl) _) (HP6.out.bad true)) (.inl rfl))
end Go.Proofs.YtbcbmpnikgeoeaaDoor

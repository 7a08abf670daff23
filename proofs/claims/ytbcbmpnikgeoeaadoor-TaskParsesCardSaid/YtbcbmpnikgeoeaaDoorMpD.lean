/- Texts laid together: Row, RowS, OpenG, ShlE, EnvO. -/
import Derived.Test.YtbcbmpnikgeoeaaDoorMpA
import Derived.ProofKit
import Derived.ChangeSame
import Derived.HandedShaped
import Derived.Handed
import Derived.Deep.Slices
import Derived.Deep.Fields
import Derived.SizedLaws
import Derived.Lib.SmallJoins
import Derived.Test.YtbcbmpnikgeoeaaDoorShl
import Derived.Lib.AppendIntMem
import Derived.Lib.AtoiErrMem
import Derived.Lib.LaidTab
import Derived.Lib.ItoaLen
import Derived.Stop.LaidErr
import Derived.Shelf.Vars
namespace Go.Proofs.YtbcbmpnikgeoeaaDoor
set_option linter.unusedSimpArgs false
set_option linter.unusedVariables false
section
open Go.RowKit Go.WideShapes Go.ChangeShapes

section
variable {H : Type} {enc : TypeId × Value → H} {P : Program}
theorem post_of_below {f : Func} {s : ChangeSpec} {apart fresh handsOn again : Bool} {W W' : World} {args : Array Value} {v : Value} {ds gs : List (DataW H)} {before pa pv : List MemPlace}
    (hW : DataW.Whole enc P f.params.toList s.vars apart W args.toList ds gs before)
    (hres : ∀ (b : Nat) (sp : Nat → Bool) (hd : Bool), DataW.TrodAll enc P W' b sp hd f.resultTypes.toList (v.resultList f.resultTypes.size) (s.fn H (ds ++ gs)).results [])
    (hargs : ∀ sp : Nat → Bool, (∀ p ∈ before, sp p.block = true) → DataW.TrodAll enc P W' 0 sp true f.params.toList args.toList (s.fn H (ds ++ gs)).args pa)
    (hvars : ∀ sp : Nat → Bool, (∀ p ∈ before, sp p.block = true) → DataW.TrodVars enc P W' sp s.vars (s.fn H (ds ++ gs)).vars pv)
    (hps : before = pa ++ pv) (hb : Below W.heap.size W W')
    (hok : ∀ (j : Nat) (t : TypeId) (r : Value), f.resultTypes[j]? = some t → (v.resultList f.resultTypes.size)[j]? = some r → Value.okWide P W' .any 0 t r) :
    s.post enc P f apart fresh handsOn again W args v W' := by
  have hlt : ∀ p ∈ before, p.block < W.heap.size := fun p hp => hW.lt p hp
  have hold : ∀ p ∈ before, (fun b => decide (b < W.heap.size)) p.block = true := fun p hp => by simpa using hlt p hp
  refine ⟨ds, gs, before, [], pa, pv, hW, hres _ _ _, hargs _ hold, hvars _ hold, World.keptBut_mono (fun p hp => ⟨hp, ?_⟩) (hb.frame (· ∈ before)), fun _ => ?_⟩
  · rw [hps, List.mem_append] at hp
    exact Or.inr hp
  · obtain ⟨_, _, _, _, _, hz, hn⟩ := hW
    refine ⟨hok, _, _, ([] ++ pa) ++ pv, ⟨[] ++ pa, pv, trodAll_append (hargs _ (fun _ _ => rfl)) (hres _ _ _), hvars _ (fun _ _ => rfl), rfl, ?_, ?_⟩, ?_⟩
    · intro b off hp
      have hin : MemPlace.cell b off ∈ before := by rw [hps]; simpa using hp
      rw [hb.frozen (hlt _ hin)]
      exact hz b off hin
    · intro ha
      have := hn ha
      rw [hps] at this
      simpa using this
    · intro p hp _
      rw [hps]
      simpa using hp
end
theorem trodAll_stays {H : Type} {enc : TypeId × Value → H} {P : Program} (hl : laidOutB P = true) {W W' : World} (hb : Below W.heap.size W W') (sp : Nat → Bool) : ∀ (ts : List TypeId) (vs : List Value) (ds : List (DataW H)) (ps : List MemPlace),
    (ts.all fun t => P.readableRec t && decide (t < P.types.size)) = true → DataW.TrodAll enc P W 0 (fun _ => true) true ts vs ds ps → (∀ x ∈ ps, x.block < W.heap.size) → (∀ x ∈ ps, sp x.block = true) → DataW.TrodAll enc P W' 0 sp true ts vs ds ps := by
  intro ts
  induction ts with
  | nil => intro vs ds ps _ h _ _; obtain ⟨rfl, rfl, rfl⟩ := trodAll_nil h; exact trodAll_mk0
  | cons t ts ih =>
    intro vs ds ps hr h hlt hsp
    obtain ⟨v, vs', d, ds', p, q, rfl, rfl, rfl, h1, h2⟩ := trodAll_cons h
    simp only [List.all_cons, Bool.and_eq_true, decide_eq_true_eq] at hr
    exact ⟨p, q, WideElems.Trod_stays hl hr.1.1 hr.1.2 h1 (fun x hx => hb.same (hlt x (by simp [hx]))) (fun x hx => hsp x (by simp [hx])), ih _ _ _ (by simpa using hr.2) h2 (fun x hx => hlt x (by simp [hx])) (fun x hx => hsp x (by simp [hx])), rfl⟩

/-- A law's post: it returns true, what was there is as it was. -/
theorem law_post {H : Type} {enc : TypeId × Value → H} {P : Program} {f : Func} {s : ChangeSpec} {apart fresh handsOn again : Bool} {W W' : World} {args : Array Value} {ds : List (DataW H)} {p : List MemPlace} {tb : TypeId} (hl : laidOutB P = true)
    (hr : (f.params.toList.all fun t => P.readableRec t && decide (t < P.types.size)) = true) (hres : f.resultTypes = #[tb]) (htb : P.underlying tb = some .bool) (hvs : s.vars = [])
    (hW : DataW.Whole enc P f.params.toList s.vars apart W args.toList ds [] p) (hA : DataW.TrodAll enc P W 0 (fun _ => true) true f.params.toList args.toList ds p)
    (h1 : (s.fn H (ds ++ [])).results = [.lit (.bool true)]) (h2 : (s.fn H (ds ++ [])).args = ds) (h3 : (s.fn H (ds ++ [])).vars = []) (hb : Below W.heap.size W W') : s.post enc P f apart fresh handsOn again W args (.bool true) W' := by
  refine post_of_below (pa := p) (pv := []) hW (fun _ _ _ => ?_) (fun sp hsp => ?_) (fun _ _ => ?_) (by simp) hb ?_
  · rw [h1, hres]; exact trodAll_mk1 (shut_bool htb _)
  · rw [h2]; exact trodAll_stays hl hb sp _ _ _ _ hr hA (fun x hx => hW.lt x hx) hsp
  · rw [hvs, h3]; rfl
  · exact ok_one hres rfl (okWide_bool_mk htb _)

theorem bounds_i64 {x : Int} (h : (Lit.int .i64 x).wf = true) : -9223372036854775808 ≤ x ∧ x ≤ 9223372036854775807 := by
  simp [Lit.wf, IntKind.min, IntKind.max, IntKind.signed, IntKind.bits] at h
  exact ⟨by omega, by omega⟩

theorem laidOut : laidOutB Tryd.prog = true := by kernel_rfl
theorem own : ownKnob Tryd.prog.godebug = none := by kernel_rfl
end

section
open Go Go.RowKit

theorem returnsInHanded_of_change_andS {H : Type} {enc : TypeId × Value → H} {a : Assume} {C : Checked} {os : Os} {f : FuncId} {fn : Func} {s : ChangeSpec} {conds : List PathCond} {apart fresh handsOn again : Bool} {X : World → Array Value → Prop}
    (hX : ∀ (w w' : World) (args : Array Value), w.heap = w'.heap → X w args → X w' args)
    (own : ownKnob C.prog.godebug = none) (started : os.Started) (noInit : C.prog.inits.idxOf? f = none) (hfn : C.prog.funcs[f]? = some fn)
    (witness : ∃ (w : World) (tape : Tape) (i : Input), w.os = os ∧ (w.forCall tape i).Shaped C.prog ∧ i.vars = [] ∧ Input.okWide C.prog (w.forCall tape i) .any w.heap.size f i ∧
      ((s.pre enc C.prog fn conds apart (w.forCall tape i).memory i.args ∧ X (w.forCall tape i).memory i.args) ∧ sizedMet enc C.prog fn (OpenSpec.ofChange s) apart (w.forCall tape i).memory i.args) ∧ a.holds C.prog (lone (Frame.enter C.prog f i.args .normal) [] (w.forCall tape i)))
    (contract : ∀ (W : World) (base : Nat) (args : Array Value) (ds gs : List (DataW H)) (before : List MemPlace),
      (∀ (j : Nat) t v, fn.params[j]? = some t → args[j]? = some v → Value.okWide C.prog W .any base t v) →
      DataW.Whole enc C.prog fn.params.toList s.vars apart W args.toList ds gs before →
      conds.all (PathCond.test C.prog ⟨fn.params.toList, ds, s.plain.varTypes C.prog, gs⟩) = true →
      (DataW.weightsEach C.prog (fn.params.toList ++ s.plain.varTypes C.prog) (ds ++ gs)).all (· ≤ reachBytes) = true → X W args → W.ShapedOpen C.prog →
      a.holds C.prog (lone (Frame.enter C.prog f args .normal) [] W) →
      Calls C.prog f args W fun e W' => ∃ v, e = .returned v ∧ s.post enc C.prog fn apart fresh handsOn again W args v W') :
    ReturnsInHanded a C os f .any (fun w args => (s.pre enc C.prog fn conds apart w args ∧ X w args) ∧ sizedMet enc C.prog fn (OpenSpec.ofChange s) apart w args) (s.post enc C.prog fn apart fresh handsOn again) := by
  refine returnsInHanded_of_calls own started noInit witness ?_
  intro w tape i _ hsh _ hok hpre hholds
  obtain ⟨_, _, _, fn', hfn', _, _, _, _, hval⟩ := hok
  have e : fn' = fn := Option.some.inj (hfn'.symm.trans hfn)
  subst e
  obtain ⟨⟨⟨ds, gs, before, hw, hc⟩, hx⟩, hz⟩ := hpre
  have hw' := DataW.Whole.of_heap (w' := w.forCall tape i) (by rfl) hw
  refine (contract (w.forCall tape i) w.heap.size i.args ds gs before hval hw' hc (hz.weights hw) (hX _ _ _ (by rfl) hx) hsh hholds).mono fun e W' ⟨v, he, hp⟩ => ?_
  subst he
  exact ChangeSpec.post_blind hp
end

section
open Go.RowKit Go.ChangeShapes Go.WideShapes Go.Deep Go.Joins

theorem list_of {α : Type} (d : α) (n : Nat) (p : Nat → α → Prop) (h : ∀ i, i < n → ∃ x, p i x) : ∃ l : List α, l.length = n ∧ ∀ i, i < n → p i (l.getD i d) := by
  induction n with
  | zero => exact ⟨[], rfl, fun i hi => absurd hi (by omega)⟩
  | succ n ih =>
    obtain ⟨l, hl, hp⟩ := ih fun i hi => h i (by omega)
    obtain ⟨x, hx⟩ := h n (by omega)
    refine ⟨l ++ [x], by simp [hl], fun i hi => ?_⟩
    rcases Nat.lt_succ_iff_lt_or_eq.1 hi with h1 | rfl
    · have e : (l ++ [x]).getD i d = l.getD i d := by simp [List.getD, List.getElem?_append_left (show i < l.length by omega)]
      rw [e]; exact hp i h1
    · subst hl
      simpa [List.getD] using hx

section
variable {H : Type} {enc : TypeId × Value → H} {P : Program} {w : World}

/-- A datum within the reach; cells that read as a datum. -/
def Fits (P : Program) (t : TypeId) (d : DataW H) : Prop := ∀ n ∈ d.weights P t, n ≤ reachBytes
def Reads (enc : TypeId × Value → H) (P : Program) (w : World) (t : TypeId) (cs : List Value) (d : DataW H) : Prop := ∃ fuel ps, DataW.trod enc P w 0 (fun _ => true) true fuel t cs = some (d, ps)

theorem weights_all {e : TypeId} {x : DataW H} : ∀ {l : List (DataW H)}, x ∈ l → ∀ n ∈ x.weights P e, n ∈ DataW.weightsAll P e l
  | y :: r, h, n, hn => by
    simp only [DataW.weightsAll, List.mem_append]
    rcases List.mem_cons.1 h with rfl | h
    · exact .inl hn
    · exact .inr (weights_all h n hn)

theorem cell_lt {a : Addr} {v : Value} (h : w.cell? a = some v) : a.block < w.heap.size := by
  unfold World.cell? at h
  cases hh : w.heap[a.block]? with
  | none => rw [hh] at h; cases h
  | some o => exact (Array.getElem?_eq_some_iff.1 hh).1

theorem open_row {t e : TypeId} {n : Nat} {cs : List Value} {d : DataW H} (ht : P.underlying t = some (.slice e)) (hC : P.cellsOf e = n) (hn : 0 < n) (hby : 0 < P.bytesOf e) (h : Reads enc P w t cs d) (hf : Fits P t d) :
    ∃ A len c, cs = [.slice A len c] ∧ (A = none → c = 0) ∧ len ≤ 140737488351232 ∧ (0 < len → ∃ b off, A = some ⟨b, off, none⟩ ∧ b < w.heap.size ∧ ∀ i, i < len → ∃ (es : List Value) (D : DataW H), es.length = n ∧ (∀ j, j < n → w.cell? ⟨b, off + i * n + j, none⟩ = es[j]?) ∧ Reads enc P w e es D ∧ Fits P e D) := by
  obtain ⟨fuel, ps, h⟩ := h
  rcases open_slice ht h with ⟨rfl, _⟩ | ⟨a, len, cap, m, k, D, Pl, rfl, _, hlc, _, hm, hx, hi⟩
  · exact ⟨none, 0, 0, rfl, fun _ => rfl, by omega, fun h => absurd h (by omega)⟩
  · simp only [ite_true] at hm
    subst hm
    simp only [Prod.mk.injEq] at hx
    obtain ⟨rfl, rfl⟩ := hx
    have hw : (len + (m - len)) * P.bytesOf e ≤ reachBytes := hf _ (by simp [DataW.weights, ht])
    have hw2 : (len + (m - len)) * 1 ≤ (len + (m - len)) * P.bytesOf e := Nat.mul_le_mul (Nat.le_refl _) hby
    have hr : reachBytes = 140737488351232 := rfl
    refine ⟨some a, len, m, rfl, fun h => (by cases h), by omega, fun h0 => ?_⟩
    have hat : ∀ i, i < m → ∃ es, es.length = n ∧ (∀ j, j < n → w.cell? (a.add (i * n + j)) = es[j]?) ∧ Reads enc P w e es (D i) := fun i him => by
      obtain ⟨es, hc, hd⟩ := hi i him
      obtain ⟨_, hl, hce⟩ := World.cells?_some hc
      rw [hC] at hl hce
      refine ⟨es, hl, fun j hj => ?_, _, _, hd⟩
      rw [← add_add]; exact hce j hj
    obtain ⟨b, off, spot⟩ := a
    have hs : spot = none := by
      obtain ⟨es, hl, hc, _⟩ := hat 0 (by omega)
      have h1 := hc 0 hn
      rw [List.getElem?_eq_getElem (show 0 < es.length by omega)] at h1
      simpa [Addr.add] using World.cell?_spot h1
    subst hs
    have hb : b < w.heap.size := by
      obtain ⟨es, hl, hc, _⟩ := hat 0 (by omega)
      have h1 := hc 0 hn
      rw [List.getElem?_eq_getElem (show 0 < es.length by omega)] at h1
      simpa [Addr.add] using cell_lt h1
    refine ⟨b, off, rfl, hb, fun i hil => ?_⟩
    obtain ⟨es, hl, hc, hd⟩ := hat i (by omega)
    refine ⟨es, D i, hl, fun j hj => ?_, hd, fun y hy => hf y ?_⟩
    · rw [← hc j hj, add_plain, Nat.add_assoc]
    · simp only [DataW.weights, ht, List.mem_cons, List.mem_append]
      exact .inr (.inl (weights_all (List.mem_map_of_mem (List.mem_range.2 hil)) y hy))

theorem open_fields {t : TypeId} {fs : Array Field} {cs : List Value} {d : DataW H} (ht : P.underlying t = some (.struct fs)) (hone : oneCellFields P fs = true) (h : Reads enc P w t cs d) (hf : Fits P t d) :
    ∀ (j : Nat) (f : Field) (v : Value), fs[j]? = some f → cs[j]? = some v → ∃ D, Reads enc P w f.type [v] D ∧ Fits P f.type D := by
  obtain ⟨fuel, ps, h⟩ := h
  obtain ⟨ys, n', _, hy, hlen, hyl, hg⟩ := DataW.trod_struct ht h
  intro j f v hj hv
  simp only [Prod.mk.injEq] at hy
  obtain ⟨rfl, _⟩ := hy
  obtain ⟨ho, hk⟩ := hone_of hone j f hj
  have hjl : j < fs.size := (Array.getElem?_eq_some_iff.1 hj).1
  have hjc : j < cs.length := (List.getElem?_eq_some_iff.1 hv).1
  have h1 := hg j f hj
  rw [ho, hk] at h1
  have hone' : (cs.drop j).take 1 = [v] := by
    rw [List.drop_eq_getElem_cons hjc]
    rw [List.getElem?_eq_getElem hjc] at hv
    cases hv
    rfl
  rw [hone'] at h1
  have hys : ys[j]? = some (ys[j]'(by omega)) := List.getElem?_eq_getElem (by omega)
  refine ⟨(ys[j]'(by omega)).1, ⟨n', (ys[j]'(by omega)).2, h1.trans hys⟩, fun y hy => hf y ?_⟩
  simp only [DataW.weights, ht]
  exact DataW.weights_mem_each (show (fs.toList.map fun f : Field => f.type)[j]? = some f.type by rw [List.getElem?_map, Array.getElem?_toList, hj]; rfl) (by simp [hys]) y hy
end

theorem fits_at {H : Type} {P : Program} {ts : List TypeId} {ds : List (DataW H)} (h : (DataW.weightsEach P ts ds).all (· ≤ reachBytes) = true) {j : Nat} {t : TypeId} {d : DataW H} (ht : ts[j]? = some t) (hd : ds[j]? = some d) : Fits P t d := fun n hn => by
  simpa using List.all_eq_true.1 h _ (DataW.weights_mem_each ht hd n hn)

section
variable {H : Type} {enc : TypeId × Value → H} {w : World}
theorem open_num {cs : List Value} {d : DataW H} (h : Reads enc Tryd.prog w 3 cs d) : ∃ x, cs = [.int .i64 x] ∧ -9223372036854775808 ≤ x ∧ x ≤ 9223372036854775807 := by
  obtain ⟨_, _, h⟩ := h
  obtain ⟨x, rfl, _, hw⟩ := DataW.trod_int Tryd.underlying3 h
  exact ⟨x, rfl, bounds_i64 hw⟩
end

section
variable {H : Type} {enc : TypeId × Value → H} {W : World} {base : Nat} {v : Value} {d : DataW H} {p : List MemPlace}
set_option maxRecDepth 100000 in
theorem arg_int (hv : Value.okWide Tryd.prog W .any base 3 v) (h : DataW.Trod enc Tryd.prog W 0 (fun _ => true) true 3 v d p) : ∃ x : Int, v = .int .i64 x ∧ -9223372036854775808 ≤ x ∧ x ≤ 9223372036854775807 := by
  obtain ⟨x, rfl, _, _, wx⟩ := open_int Tryd.underlying3 hv h
  exact ⟨x, rfl, bounds_i64 wx⟩
end
end

section
open Go Go.RowKit Go.Lib
set_option linter.unusedVariables false

/-- The table of powers of ten; the longest needle; the two errors of strconv. -/
structure EnvT (w : World) : Prop where
  tab : TabIs Tryd.prog w "internal/strconv.uint64pow10" .u64 pow10Tab
structure EnvM (w : World) : Prop where
  max : ∃ m, w.cell? ⟨0, 0, none⟩ = some (.int .i64 m)
structure EnvA (w : World) : Prop where
  syn : ∃ te pe, w.cell? ⟨4, 0, none⟩ = some (.iface te pe)
  rng : ∃ te pe, w.cell? ⟨5, 0, none⟩ = some (.iface te pe)
theorem EnvT.up {w w' : World} (h : EnvT w) (hb : Below w.heap.size w w') : EnvT w' := ⟨tabBelow_of_tabIs h.tab w' hb⟩
theorem EnvM.up {w w' : World} (h : EnvM w) (hb : Below w.heap.size w w') : EnvM w' := by
  obtain ⟨m, h⟩ := h.max
  exact ⟨m, (hb.cell (cell_lt h)).trans h⟩
theorem EnvA.up {w w' : World} (h : EnvA w) (hb : Below w.heap.size w w') : EnvA w' := by
  obtain ⟨⟨t1, p1, h1⟩, t2, p2, h2⟩ := h
  exact ⟨⟨t1, p1, (hb.cell (cell_lt h1)).trans h1⟩, t2, p2, (hb.cell (cell_lt h2)).trans h2⟩

/-- A numeral's bytes; what stands before a mark, behind it, and whether it is there. -/
def itB (n : Int) : ByteArray := ⟨(itoa n).toArray⟩
def cutA (s p : ByteArray) : ByteArray := ⟨(cut s.data.toList p.data.toList).1.toArray⟩
def cutB (s p : ByteArray) : ByteArray := ⟨(cut s.data.toList p.data.toList).2.1.toArray⟩
def cutC (s p : ByteArray) : Bool := (cut s.data.toList p.data.toList).2.2
theorem itoa_any (n : Int) (w : World) (h0 : -9223372036854775808 ≤ n) (h1 : n ≤ 9223372036854775807) (hE : EnvT w) :
    Calls Tryd.prog 31 #[.int .i64 n] w fun e w' => e = .returned (.string (itB n)) ∧ Below w.heap.size w w' :=
  (Tryd.strconv_Itoa n h0 h1 w hE.tab).mono fun e w' ⟨he, k, os, hw⟩ => ⟨he, by rw [hw]; exact below_grow _ _ (Nat.le_refl _) _ _⟩
theorem cut_any (s p : ByteArray) (w : World) (hs : s.size < 4294967281) (hE : EnvM w) :
    Calls Tryd.prog 47 #[.string s, .string p] w fun e w' => e = .returned (.tuple #[.string (cutA s p), .string (cutB s p), .bool (cutC s p)]) ∧ Below w.heap.size w w' := by
  obtain ⟨m, hm⟩ := hE.max
  exact (Tryd.strings_Cut s p m w hs hm).mono fun e w' ⟨he, n, hw⟩ => ⟨he, by rw [hw]; exact below_dN (Below.refl _ _) n⟩
theorem atoi_ok (s : ByteArray) (v : Int) (w : World) (hs : s.size ≤ 281474976710656) (h : atoiAll s.data.toList = .ok v) :
    Calls Tryd.prog 64 #[.string s] w fun e w' => e = .returned (.tuple #[.int .i64 v, .nilIface]) ∧ Below w.heap.size w w' :=
  (Tryd.strconv_Atoi_ok s (by omega) v h w).mono fun e w' ⟨he, hw⟩ => ⟨he, by
    rcases hw with rfl | ⟨t, rfl⟩
    · exact Below.refl _ _
    · exact bytesWorld_below _ _ _⟩
theorem atoi_bad (s : ByteArray) (w : World) (hs : s.size ≤ 281474976710656) (h : ∀ v, atoiAll s.data.toList ≠ .ok v) (hE : EnvA w) :
    Calls Tryd.prog 64 #[.string s] w fun e w' => (∃ x te pe, e = .returned (.tuple #[.int .i64 x, .iface te pe])) ∧ Below w.heap.size w w' := by
  obtain ⟨⟨t1, p1, h1⟩, t2, p2, h2⟩ := hE
  cases e : atoiAll s.data.toList with
  | ok v => exact absurd e (h v)
  | «syntax» => exact (Tryd.strconv_Atoi_syntax s hs e _ w h1 (.inr ⟨_, _, rfl⟩)).mono fun e w' ⟨N, he, _, _, hb⟩ => ⟨⟨_, _, _, he⟩, hb⟩
  | range => exact (Tryd.strconv_Atoi_range s hs e _ w h2 (.inr ⟨_, _, rfl⟩)).mono fun e w' ⟨N, he, _, _, hb⟩ => ⟨⟨_, _, _, he⟩, hb⟩
theorem itB_size (n : Int) (h0 : -9223372036854775808 ≤ n) (h1 : n ≤ 9223372036854775807) : (itB n).size ≤ 21 := by
  have h := itoa_length_le n h0 h1
  show (itoa n).toArray.size ≤ 21
  rw [List.size_toArray]; exact h
end

section
open Go Go.RowKit Go.Lib
set_option linter.unusedVariables false

theorem rowES (u : TypeId) (h : Tryd.prog.typeName? 3 u = some "*errors.errorString") : u = 158 := by
  have st : "*" ++ "errors.errorString" = "*errors.errorString" := by decide
  exact typeName_ptr_named (nm := "errors.errorString") (by rw [st]; kernel_rfl) (by kernel_rfl) (by decide) u (by rw [st]; exact h)
theorem envM_of {w : World} (h : w.ShapedOpen Tryd.prog) : EnvM w := ⟨cell_of_shapedOpen_int (t := 3) (zero := #[.int .i64 0]) h (of_decide_eq_true (by kernel_rfl)) (by kernel_rfl) rfl (by kernel_rfl) (by kernel_rfl) Tryd.underlying3⟩
theorem envT_of {w : World} {r : List (String × DataW Unit)} (h : laidMet Tryd.prog (("internal/strconv.uint64pow10", tabData .u64 pow10Tab) :: r) w) : EnvT w :=
  ⟨tabIs_of_head (g := 1) (t := 139) (e := 125) (n := 20) (by kernel_rfl) (by kernel_rfl) Tryd.underlying139 Tryd.underlying125 (by kernel_rfl) (by kernel_rfl) h⟩
theorem sentinel_of {n : String} {text : List UInt8} {r : List (String × DataW Unit)} {w : World} {g : Nat} (h : laidMet Tryd.prog ((n, .iface "*errors.errorString" (.ptr (.agg [.lit (.string text)]))) :: r) w) (hg : Tryd.prog.globalNamed n = some g) (ht : (Tryd.prog.globals[g]?).map (·.type) = some 29) : ∃ te pe, w.cell? ⟨g, 0, none⟩ = some (.iface te pe) := by
  obtain ⟨a0, s0, hv0, -, -, -⟩ := laid_sentinel h hg ht Tryd.underlying29 rowES Tryd.underlying158 Tryd.underlying160 rfl rfl Tryd.underlying9 (by kernel_rfl) (by kernel_rfl)
  exact ⟨_, _, by have h0 := World.var?_cell hg hv0 0; simpa using h0⟩
theorem envA_of {w : World} {t1 t2 : List UInt8} {r1 r2 : List (String × DataW Unit)} (h1 : laidMet Tryd.prog (("strconv.ErrSyntax", .iface "*errors.errorString" (.ptr (.agg [.lit (.string t1)]))) :: r1) w) (h2 : laidMet Tryd.prog (("strconv.ErrRange", .iface "*errors.errorString" (.ptr (.agg [.lit (.string t2)]))) :: r2) w) : EnvA w :=
  ⟨sentinel_of h1 (by kernel_rfl) (by kernel_rfl), sentinel_of h2 (by kernel_rfl) (by kernel_rfl)⟩
end

end Go.Proofs.YtbcbmpnikgeoeaaDoor

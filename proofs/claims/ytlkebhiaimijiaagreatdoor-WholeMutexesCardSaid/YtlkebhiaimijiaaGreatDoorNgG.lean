/- Texts laid together: VbN, VbO, VaB, VaC, VbP, VbQ. -/
import Derived.Test.YtlkebhiaimijiaaGreatDoorNgF
import Derived.Test.YtlkebhiaimijiaaGreatDoorNgC
namespace Go.Proofs.YtlkebhiaimijiaaGreatDoor
set_option linter.unusedSimpArgs false
set_option linter.unusedVariables false
section
open Go Go.RowKit
set_option linter.unusedVariables false

theorem kb_putRowE {α : Type} [Inhabited α] {enc : α → Value} {w : World} {g q : Nat} {F : Array α} {os : Array Obj} : Kb (fun b => b = g) w (Sort.grow (Sort.putRow enc (Sort.ahead w q) g 0 F) os) := by
 have hsz : (Sort.putRow enc (Sort.ahead w q) g 0 F).heap.size = w.heap.size := by simp [Sort.putRow, Sort.mapBlock, Sort.ahead]
 refine ⟨rfl, rfl, rfl, by rw [Sort.size_grow, hsz]; exact Nat.le_add_right _ _, fun k hk hne => ?_⟩
 rw [Sort.heap_grow_old _ _ (by omega)]
 have hne : g ≠ k := fun e => hne e.symm
 simp [Sort.putRow, Sort.mapBlock, Sort.ahead, Array.getElem?_modify, hne]
/-- A slice of facts that lies outside block g. -/
abbrev HdG (w : World) (g : Nat) := {x : Hd // Fac w (fun b => b = g) x.a x.l}
def cmpG {w : World} {g : Nat} (x y : HdG w g) : Int := cmpL x.1.l y.1.l
theorem swoG {w : World} {g : Nat} : Sort.SWO (ltOf (cmpG (w := w) (g := g))) where
 irrefl x := by unfold ltOf cmpG; rw [decide_eq_false_iff_not]; exact cmpL_irr _
 trans x y z h1 h2 := by unfold ltOf cmpG at *; simp only [decide_eq_true_eq] at *; exact cmpL_trans h1 h2
 ntrans x y z h1 h2 := by
  unfold ltOf cmpG at *
  simp only [decide_eq_false_iff_not] at *
  intro h3
  rcases cmpL_tri x.1.l y.1.l with h | h | h
  ·exact h1 h
  ·rw [h] at h3; exact h2 h3
  ·exact h2 (cmpL_trans h h3)
theorem sortL_any {w : World} {B : Nat} {A : Option Addr} {c : Nat} {hs : List Hd} (h : w.ownsRow B 23 1 (.slice A hs.length c) hs.length (hs.map Hd.v)) (hf : ∀ x ∈ hs, Fac w (fun b => (Value.slice A hs.length c).ownBlock = some b) x.a x.l) (hl : hs.length ≤ 1000000) :
  Calls Tryz.prog 73 #[.slice A hs.length c, .func (.func 74) #[] #[]] w fun e w' => e = .returned (.tuple #[]) ∧ (∃ ts : List Hd, ts.Perm hs ∧ w'.ownsRow B 23 1 (.slice A hs.length c) hs.length (ts.map Hd.v)) ∧ Kb (fun b => (Value.slice A hs.length c).ownBlock = some b) w w' := by
 by_cases h0 : hs = []
 ·subst h0
  refine (AnyF.slices_SortFunc_none Tryz.laysSFL A c (.func (.func 74) #[] #[]) w).mono ?_
  rintro e w' ⟨rfl, rfl⟩
  exact ⟨rfl, ⟨[], List.Perm.refl _, h⟩, Kb.refl _ _⟩
 ·obtain ⟨g, rfl⟩ : ∃ g, A = some ⟨g, 0, none⟩ := by
   rcases h.2 with ⟨e, hz⟩ | ⟨g, cap, cur, e, _⟩
   ·exact absurd (List.length_eq_zero_iff.1 hz) h0
   ·injection e with e; exact ⟨g, e⟩
  have hg := (h.lt g rfl).2
  have hf' : ∀ x ∈ hs, Fac w (fun b => b = g) x.a x.l := fun x hx => (hf x hx).sub fun b _ e => by rw [e]; rfl
  obtain ⟨x0, hx0⟩ := List.exists_mem_of_ne_nil hs h0
  letI : Inhabited (HdG w g) := ⟨⟨x0, hf' x0 hx0⟩⟩
  obtain ⟨zs, hzs⟩ : ∃ zs : List (HdG w g), zs = hs.attach.map fun x => ⟨x.1, hf' x.1 x.2⟩ := ⟨_, rfl⟩
  have hz1 : zs.map (·.1) = hs := by rw [hzs, List.map_map]; exact List.attach_map_subtype_val hs
  have hzl : zs.length = hs.length := by rw [← hz1, List.length_map]
  let enc : HdG w g → Value := fun x => x.1.v
  have hze : zs.map enc = hs.map Hd.v := by rw [← hz1, List.map_map]; rfl
  have h' := h
  rw [← hze] at h'
  obtain ⟨g2, cap2, hv2, _, _, _, _, _, hH⟩ := Lib.holds_of_ownsRow (enc := enc) (zs := zs) h' (fun e => by injection e with e; cases e)
  have hgg : g2 = g ∧ cap2 = c := by injection hv2 with e1 _ e3; injection e1 with e1; injection e1 with e1; exact ⟨e1.symm, e3.symm⟩
  obtain ⟨rfl, rfl⟩ := hgg
  have eg : ∀ args w, (callFunc 74 args).run Tryz.prog w = .ok (.enter 74 args) w := enters_of Tryz.func74 (by kernel_rfl) rfl
  have hc : CmpLays1 Tryz.prog 74 #[] enc cmpG g2 0 zs.toArray.size w := fun m os dk hs' x y => by
   have hk : Kb (fun b => b = g2) w (sortWorld enc w g2 0 m dk os) := kb_putRowE
   have := rcompare_any x.1.l y.1.l x.1.a y.1.a x.1.c y.1.c (sortWorld enc w g2 0 m dk os) (x.2.kb hk).at_ (y.2.kb hk).at_
   rw [show (#[enc x, enc y] ++ #[] : Array Value) = #[enc x, enc y] by simp]
   exact this
  have hh := Any.slices_SortFunc Tryz.laysSL enc (fun x => rfl) cmpG swoG 74 #[] g2 0 cap2 zs.toArray w eg hc hH hg (by simp; omega)
  have hsz : zs.toArray.size = hs.length := by simp [hzl]
  rw [hsz] at hh
  refine Calls.mono hh ?_
  rintro e w' ⟨rfl, d', n, os, hp, hs', rfl⟩
  rw [← hsz] at hp
  have hpl := perm_of hp
  have hd : d'.toList.length = hs.length := by have := hpl.length_eq; simpa [hzl] using this
  refine ⟨rfl, ⟨d'.toList.map (·.1), ?_, ?_⟩, ?_⟩
  ·rw [← hz1]; exact List.Perm.map (fun x : HdG w g2 => x.1) (by simpa using hpl)
  ·have ho := Lib.ownsRow_putRow (enc := enc) (q := n) (k := hs.length) (ys := d'.toList) h' hd (Nat.le_refl _)
   rw [List.take_of_length_le (by omega)] at ho
   rw [List.map_map]
   exact own_growV ho
  ·have := kb_putRowE (enc := enc) (w := w) (g := g2) (q := n) (F := d') (os := os)
   exact ⟨this.os, this.tape, this.output, this.size, fun b hb hne => this.block b hb (fun e => hne (by rw [e]; rfl))⟩
end

section
open Go Go.RowKit
set_option linter.unusedVariables false

/-- Where a partial state stands in a sorted list. -/
structure AtS (L : List (List Fct)) (z : List Fct) (i : Nat) : Prop where
 le : i ≤ L.length
 lo : ∀ k, k < i → cmpL (L.getD k []) z < 0
 hi : ∀ k, i ≤ k → k < L.length → ¬ cmpL (L.getD k []) z < 0
theorem srtL_lt {L : List (List Fct)} (h : SrtL L) {i j : Nat} (hij : i < j) (hj : j < L.length) : cmpL (L.getD i []) (L.getD j []) < 0 := by
 have := List.pairwise_iff_getElem.1 h i j (by omega) hj hij
 rw [List.getD_eq_getElem?_getD, List.getD_eq_getElem?_getD, List.getElem?_eq_getElem hj, List.getElem?_eq_getElem (by omega)]
 exact this
theorem atS_mem {L : List (List Fct)} {z : List Fct} {i : Nat} (hs : SrtL L) (h : AtS L z i) (hn : ¬ (i < L.length ∧ L.getD i [] = z)) : z ∉ L := by
 intro hz
 obtain ⟨k, hk, rfl⟩ := List.mem_iff_getElem.1 hz
 have e : L.getD k [] = L[k] := by rw [List.getD_eq_getElem?_getD, List.getElem?_eq_getElem hk]; rfl
 rcases Nat.lt_or_ge k i with h1 | h1
 ·have := h.lo k h1
  rw [e] at this
  exact cmpL_irr _ this
 ·rcases Nat.lt_or_ge i k with h2 | h2
  ·have h3 := srtL_lt hs h2 hk
   rw [e] at h3
   exact h.hi i (Nat.le_refl _) (by omega) h3
  ·obtain rfl : k = i := by omega
   exact hn ⟨hk, e⟩
theorem atS_ins {L : List (List Fct)} {z : List Fct} {i : Nat} (hs : SrtL L) (h : AtS L z i) (hn : ¬ (i < L.length ∧ L.getD i [] = z)) : SrtL (L.take i ++ z :: L.drop i) := by
 refine srtL_ins hs h.le h.lo fun k hk hkl => ?_
 rcases cmpL_tri (L.getD k []) z with h1 | h1 | h1
 ·exact absurd h1 (h.hi k hk hkl)
 ·refine absurd (?_ : z ∈ L) (atS_mem hs h hn)
  rw [← h1, List.getD_eq_getElem?_getD, List.getElem?_eq_getElem hkl]
  exact List.getElem_mem hkl
 ·exact h1

set_option maxRecDepth 20000 in
set_option maxHeartbeats 4000000 in
theorem bsearch_any (hs : List Hd) (z : List Fct) (A A2 : Option Addr) (c c2 : Nat) (w : World) (h1 : Rls w (fun _ => False) A hs) (h2 : FactsAt w w.heap.size A2 z) (hsr : SrtL (hls hs)) :
  Calls Tryz.prog 122 #[.slice A hs.length c, .slice A2 z.length c2, .func (.func 74) #[] #[]] w fun e w' =>
   (∃ i, e = .returned (.tuple #[.int .i64 (i : Nat), .bool (decide (i < hs.length ∧ (hls hs).getD i [] = z))]) ∧ AtS (hls hs) z i) ∧ Below w.heap.size w w' := by
 have hln := h1.len
 have hll : (hls hs).length = hs.length := by unfold hls; simp
 have H1 := Lib.hid h1
 have H2 := Lib.hid h2
 have HS := Lib.hid hsr
 have KC := Lib.hid (fun (W : World) (k : Below w.heap.size w W) (j : Nat) (hj : j < hs.length) => rcompare_any (hd hs j).l z (hd hs j).a A2 (hd hs j).c c2 W ((h1.fac hj).up k).at_ (h2.up k))
 clear h1 h2 hsr
 obtain ⟨n, hn⟩ : ∃ n, n = hs.length := ⟨_, rfl⟩
 rw [← hn] at hln hll ⊢
 have HN := Lib.hid hn
 clear hn
 go_enter Tryz.func122, Tryz.ntmps122
 go_wp2
 go_loopw [9, 10] (fun v9 v10 wr => ∃ lo hi : Nat, v9 = .int .i64 lo ∧ v10 = .int .i64 hi ∧ lo ≤ hi ∧ hi ≤ n ∧ Hid (∀ k, k < lo → cmpL ((hls hs).getD k []) z < 0) ∧ Hid (∀ k, hi ≤ k → k < n → 0 ≤ cmpL ((hls hs).getD k []) z) ∧ Hid (Below w.heap.size w wr)) (fun v9 v10 _ => (intOf v10).toNat - (intOf v9).toNat)
 case atStart => exact ⟨0, n, rfl, rfl, by omega, by omega, Lib.hid (fun k hk => absurd hk (by omega)), Lib.hid (fun k h1 h2 => absurd h2 (by omega)), Lib.hid (Below.refl _ _)⟩
 case round =>
  obtain ⟨lo, hi, rfl, rfl, hlh, hin, HLO, HHI, HE⟩ := hrel
  obtain ⟨wt, rfl⟩ : ∃ wt : World, wt = wr := ⟨_, rfl⟩
  have hbz := HE.out.size
  by_cases hlt : lo < hi
  ·obtain ⟨m, hm⟩ : ∃ m, m = (lo + hi) / 2 := ⟨_, rfl⟩
   have hmid : ((lo : Int) + (hi : Int)) / 2 = (m : Int) := by omega
   have hm1 : lo ≤ m := by omega
   have hm2 : m < hi := by omega
   have hmn : m < n := by omega
   have hmh : m < hs.length := by rw [← HN.out]; exact hmn
   obtain ⟨b, off, hA, hb, _, hc⟩ := (H1.out.up HE.out).at_ hmh
   have d1 := hc m hmh
   have hcp := KC.out wt HE.out m hmh
   have HG := Lib.hid (show (hls hs).getD m [] = (hd hs m).l from hls_hd hmh)
   subst hA
   obtain ⟨r, hr⟩ : ∃ r, r = cmpL (hd hs m).l z := ⟨_, rfl⟩
   rw [← hr] at hcp
   have HR := Lib.hid hr
   clear hm hc hr hmh
   by_cases hr0 : r < 0
   ·have e0 : decide (r < 0) = true := by simpa using hr0
    go_wp2_with fail
    refine hcp.mono ?_
    rintro e w2 ⟨rfl, hg⟩
    have HB2 := Lib.hid (show Below w.heap.size w w2 from HE.out.trans (hg.below.mono hbz))
    clear hg hcp
    go_wp2
    go_roundw
    case rel => exact ⟨m + 1, hi, by go_num, rfl, by omega, hin, Lib.hid (fun k hk => by
     rcases Nat.lt_succ_iff_lt_or_eq.1 hk with h | rfl
     ·have h3 := srtL_lt HS.out h (by omega)
      rw [HG.out] at h3
      exact cmpL_trans h3 (by rw [← HR.out]; exact hr0)
     ·rw [HG.out, ← HR.out]; exact hr0), HHI, HB2⟩
    case measure => simp [intOf]; omega
   ·have e0 : decide (r < 0) = false := by simpa using hr0
    go_wp2_with fail
    refine hcp.mono ?_
    rintro e w2 ⟨rfl, hg⟩
    have HB2 := Lib.hid (show Below w.heap.size w w2 from HE.out.trans (hg.below.mono hbz))
    clear hg hcp
    go_wp2
    go_roundw
    case rel => exact ⟨lo, m, rfl, rfl, hm1, by omega, HLO, Lib.hid (fun k hk hkn => Int.not_lt.1 fun h => by
     rcases Nat.lt_or_ge m k with h1 | h1
     ·have h3 := srtL_lt HS.out h1 (by omega)
      rw [HG.out] at h3
      have h4 := cmpL_trans h3 h
      rw [← HR.out] at h4; omega
     ·obtain rfl : k = m := by omega
      rw [HG.out, ← HR.out] at h
      omega), HB2⟩
    case measure => simp [intOf]; omega
  ·obtain rfl : hi = lo := by omega
   have HA := Lib.hid (show AtS (hls hs) z hi from ⟨by omega, HLO.out, fun k h1 h2 => Int.not_lt.2 (HHI.out k h1 (by omega))⟩)
   by_cases hend : hi < n
   ·have hmh : hi < hs.length := by rw [← HN.out]; exact hend
    obtain ⟨b, off, hA, hb, _, hc⟩ := (H1.out.up HE.out).at_ hmh
    have d1 := hc hi hmh
    have hcp := KC.out wt HE.out hi hmh
    have HG := Lib.hid (show (hls hs).getD hi [] = (hd hs hi).l from hls_hd hmh)
    subst hA
    have e0 : decide (hi < n) = true := by simpa using hend
    obtain ⟨r, hr⟩ : ∃ r, r = cmpL (hd hs hi).l z := ⟨_, rfl⟩
    rw [← hr] at hcp
    have HR := Lib.hid hr
    clear hc hr hmh
    go_wp2_with fail
    refine hcp.mono ?_
    rintro e w2 ⟨rfl, hg⟩
    have HB2 := Lib.hid (show Below w.heap.size w w2 from HE.out.trans (hg.below.mono hbz))
    clear hg hcp
    go_wp2
    refine bodyPost_ret (v := .tuple #[.int .i64 (hi : Nat), .bool (r == 0)]) (by simp [results, Tryz.results122, go_sem]) rfl ⟨⟨hi, ?_, HA.out⟩, HB2.out⟩
    have : (r == 0) = decide (hi < n ∧ (hls hs).getD hi [] = z) := by
     rw [HG.out, Bool.eq_iff_iff, beq_iff_eq, decide_eq_true_eq, HR.out, cmpL_eq]
     exact ⟨fun h => ⟨hend, h⟩, fun h => h.2⟩
    rw [← this]
   ·have e0 : decide (hi < n) = false := by simpa using hend
    go_wp2
    refine bodyPost_ret (v := .tuple #[.int .i64 (hi : Nat), .bool false]) (by simp [results, Tryz.results122, go_sem]) rfl ⟨⟨hi, ?_, HA.out⟩, HE.out⟩
    have : decide (hi < n ∧ (hls hs).getD hi [] = z) = false := by rw [decide_eq_false_iff_not]; exact fun h => hend h.1
    rw [this]
end

section
open Go.RowKit
set_option linter.unusedVariables false

/-- A set of partial states. -/
abbrev PSet := List Fct → Prop
def JoinS (A B : PSet) : PSet := fun z => ∃ x y, A x ∧ B y ∧ mrg x y = some z
/-- In which an effect does not fire. -/
def QuietS (vars : List Int) (e : Eff) : PSet := fun y => ∃ f ∈ e.whn, ∃ v : Int, 0 ≤ v ∧ v < nth vars f.1.toNat ∧ v ≠ f.2 ∧ y = [(f.1, v)]
/-- Joined with 'does not fire' for each effect that sets another value. -/
def SilS (vars : List Int) (x : Int) : List Eff → PSet → PSet
 | [], A => A
 | e :: r, A => if e.val = x then SilS vars x r A else SilS vars x r (JoinS A (QuietS vars e))
def effsOn (es : List Eff) (v : Int) : List Eff := es.filter fun e => e.var == v
/-- The cases of a fact. -/
def CaseS (vars : List Int) (es : List Eff) (f : Fct) : PSet := fun z =>
 SilS vars f.2 (effsOn es f.1) (fun y => y = [f]) z ∨ ∃ l1 e l2, effsOn es f.1 = l1 ++ e :: l2 ∧ e.val = f.2 ∧ SilS vars f.2 l2 (fun y => y = e.whn) z
/-- The last list of the computation. -/
def PreS (vars : List Int) (es : List Eff) : List Fct → PSet → PSet
 | [], A => A
 | f :: r, A => PreS vars es r (JoinS A (CaseS vars es f))
/-- What Regress returns. -/
def RegS (vars : List Int) (o : Opr) (p : List Fct) : PSet := fun z =>
 PreS vars o.effs p (fun y => y = o.pre) z ∧ ∀ y, PreS vars o.effs p (fun y => y = o.pre) y → Sub y z → ¬ y.length < z.length

/-- Only right partial states. -/
def AllFa (vars : List Int) (A : PSet) : Prop := ∀ z, A z → faB vars z = true
/-- A state contains one of a set. -/
def Has (A : PSet) (s : List Int) : Prop := ∃ z, A z ∧ hoB z s = true
section
variable {vars : List Int}
theorem JoinS.fa {A B : PSet} (hA : AllFa vars A) (hB : AllFa vars B) : AllFa vars (JoinS A B) := by
 rintro z ⟨x, y, hx, hy, h⟩
 exact mrg_fa h (hA x hx) (hB y hy)
theorem has_join {A B : PSet} {s : List Int} : Has (JoinS A B) s ↔ Has A s ∧ Has B s := by
 constructor
 ·rintro ⟨z, ⟨x, y, hx, hy, h⟩, hz⟩
  have := (mrg_ho h).1 hz
  exact ⟨⟨x, hx, this.1⟩, ⟨y, hy, this.2⟩⟩
 ·rintro ⟨⟨x, hx, h1⟩, ⟨y, hy, h2⟩⟩
  obtain ⟨z, hz⟩ := mrg_both h1 h2
  exact ⟨z, ⟨x, y, hx, hy, hz⟩, (mrg_ho hz).2 ⟨h1, h2⟩⟩
theorem faB_one {v x : Int} (h0 : 0 ≤ v) (h1 : v < (vars.length : Int)) (h2 : 0 ≤ x) (h3 : x < nth vars v.toNat) : faB vars [(v, x)] = true :=
 fa_iff.2 ⟨asc_one _, fun y hy => by simp at hy; subst hy; exact ⟨h0, h1, h2, h3⟩⟩
theorem QuietS.fa {e : Eff} (h : faB vars e.whn = true) : AllFa vars (QuietS vars e) := by
 rintro z ⟨f, hf, v, h0, h1, h2, rfl⟩
 have := fa_inv h f hf
 exact faB_one this.1 this.2.1 h0 h1
theorem has_quiet {e : Eff} {s : List Int} (h : faB vars e.whn = true) (hs : stB vars s = true) : Has (QuietS vars e) s ↔ hoB e.whn s = false := by
 have hl := stB_len hs
 have hr : StP vars s := by unfold stB at hs; simpa using hs
 constructor
 ·rintro ⟨z, ⟨f, hf, v, h0, h1, h2, rfl⟩, hz⟩
  cases hh : hoB e.whn s
  ·rfl
  ·have a := (ho_iff.1 hh f hf).2.2
   have b := (ho_iff.1 hz (f.1, v) (by simp)).2.2
   exact absurd (b.symm.trans a) h2
 ·intro hh
  have : ∃ f ∈ e.whn, nth s f.1.toNat ≠ f.2 := by
   refine Classical.byContradiction fun hn => ?_
   have : hoB e.whn s = true := ho_iff.2 fun x hx => by
    have hx2 := fa_inv h x hx
    refine ⟨hx2.1, by rw [hl]; exact hx2.2.1, Classical.byContradiction fun hne => hn ⟨x, hx, hne⟩⟩
   rw [this] at hh; cases hh
  obtain ⟨f, hf, hne⟩ := this
  have hx := fa_inv h f hf
  have hv := hr.2 f.1.toNat (by omega)
  exact ⟨[(f.1, nth s f.1.toNat)], ⟨f, hf, _, hv.1, hv.2, hne, rfl⟩, ho_iff.2 fun x hx2 => by simp at hx2; subst hx2; exact ⟨hx.1, by rw [hl]; exact hx.2.1, rfl⟩⟩
theorem SilS.fa {x : Int} : ∀ {es : List Eff} {A : PSet}, (∀ e ∈ es, faB vars e.whn = true) → AllFa vars A → AllFa vars (SilS vars x es A)
 | [], A, _, hA => hA
 | e :: r, A, he, hA => by
  unfold SilS
  split
  ·exact SilS.fa (fun e' h' => he e' (List.mem_cons_of_mem _ h')) hA
  ·exact SilS.fa (fun e' h' => he e' (List.mem_cons_of_mem _ h')) (JoinS.fa hA (QuietS.fa (he e (by simp))))
theorem has_sil {x : Int} {s : List Int} (hs : stB vars s = true) : ∀ {es : List Eff} {A : PSet}, (∀ e ∈ es, faB vars e.whn = true) →
  (Has (SilS vars x es A) s ↔ Has A s ∧ ∀ e ∈ es, e.val ≠ x → hoB e.whn s = false)
 | [], A, _ => by unfold SilS; simp
 | e :: r, A, he => by
  have he' : ∀ e' ∈ r, faB vars e'.whn = true := fun e' h' => he e' (List.mem_cons_of_mem _ h')
  unfold SilS
  split
  ·rename_i hv
   rw [has_sil hs he']
   constructor
   ·rintro ⟨h1, h2⟩
    refine ⟨h1, fun e' h' hne => ?_⟩
    rcases List.mem_cons.1 h' with rfl | h'
    ·exact absurd hv hne
    ·exact h2 e' h' hne
   ·rintro ⟨h1, h2⟩
    exact ⟨h1, fun e' h' => h2 e' (List.mem_cons_of_mem _ h')⟩
  ·rename_i hv
   rw [has_sil hs he', has_join, has_quiet (he e (by simp)) hs]
   constructor
   ·rintro ⟨⟨h1, h2⟩, h3⟩
    refine ⟨h1, fun e' h' hne => ?_⟩
    rcases List.mem_cons.1 h' with rfl | h'
    ·exact h2
    ·exact h3 e' h' hne
   ·rintro ⟨h1, h2⟩
    exact ⟨⟨h1, h2 e (by simp) hv⟩, fun e' h' => h2 e' (List.mem_cons_of_mem _ h')⟩
/-- The value of a variable after effects. -/
def setBy (s : List Int) (v : Int) : List Eff → Int → Int
 | [], x => x
 | e :: r, x => setBy s v r (if e.var = v ∧ hoB e.whn s = true then e.val else x)
theorem setBy_app (s : List Int) (v : Int) : ∀ (a : List Eff) (e : Eff) (x : Int), setBy s v (a ++ [e]) x = if e.var = v ∧ hoB e.whn s = true then e.val else setBy s v a x
 | [], e, x => rfl
 | b :: r, e, x => by
  show setBy s v (r ++ [e]) _ = _
  rw [setBy_app s v r e]
  rfl
theorem nth_setV {l : List Int} {i k : Nat} {x : Int} : nth (l.set i x) k = if i = k ∧ k < l.length then x else nth l k := by
 unfold nth
 simp only [List.getD, List.getElem?_set]
 by_cases e : i = k
 ·subst e
  by_cases h : i < l.length
  ·simp [h]
  ·simp [h]
 ·simp [e]
theorem eff_take {es : List Eff} {j : Nat} (h : j < es.length) : es.take (j + 1) = es.take j ++ [eff es j] := by
 rw [← List.take_append_getElem h]; unfold eff; simp [List.getD, List.getElem?_eq_getElem h]
theorem apE_at {s : List Int} {es : List Eff} {v : Int} (h0 : 0 ≤ v) (hv : v < (s.length : Int)) (he : ∀ e ∈ es, 0 ≤ e.var) : ∀ j, j ≤ es.length → nth (apE s es j) v.toNat = setBy s v (es.take j) (nth s v.toNat)
 | 0, _ => by simp [apE, setBy]
 | j + 1, hj => by
  have ih := apE_at h0 hv he j (by omega)
  rw [eff_take (by omega), setBy_app, ← ih]
  have hm := eff_mem (l := es) (k := j) (by omega)
  have hp := he _ hm
  have e1 : apE s es (j + 1) = if hoB (eff es j).whn s then (apE s es j).set (eff es j).var.toNat (eff es j).val else apE s es j := rfl
  rw [e1]
  by_cases h1 : hoB (eff es j).whn s = true
  ·rw [if_pos h1, nth_setV, apE_len]
   by_cases h2 : (eff es j).var = v
   ·rw [if_pos ⟨by rw [h2], by omega⟩, if_pos ⟨h2, h1⟩]
   ·rw [if_neg (by omega), if_neg (fun h => h2 h.1)]
  ·rw [if_neg h1, if_neg (fun h => h1 h.2)]
theorem setBy_on (s : List Int) (v : Int) : ∀ (es : List Eff) (x : Int), setBy s v es x = setBy s v (effsOn es v) x
 | [], x => rfl
 | e :: r, x => by
  by_cases h : e.var = v
  ·have : effsOn (e :: r) v = e :: effsOn r v := by unfold effsOn; rw [List.filter_cons]; simp [h]
   rw [this]; exact setBy_on s v r _
  ·have : effsOn (e :: r) v = effsOn r v := by unfold effsOn; rw [List.filter_cons]; simp [h]
   rw [this]
   show setBy s v r _ = _
   rw [if_neg (fun hh => h hh.1)]; exact setBy_on s v r _
theorem mem_on {es : List Eff} {v : Int} {e : Eff} : e ∈ effsOn es v ↔ e ∈ es ∧ e.var = v := by unfold effsOn; rw [List.mem_filter]; simp
/-- The last effect that fires tells the value. -/
theorem setBy_eq (s : List Int) (v : Int) (x : Int) : ∀ (es : List Eff), (∀ e ∈ es, e.var = v) → ∀ y, (setBy s v es y = x ↔
  (y = x ∧ ∀ e ∈ es, e.val ≠ x → hoB e.whn s = false) ∨ ∃ l1 e l2, es = l1 ++ e :: l2 ∧ e.val = x ∧ hoB e.whn s = true ∧ ∀ e' ∈ l2, e'.val ≠ x → hoB e'.whn s = false)
 | [], _, y => by
  unfold setBy
  constructor
  ·intro h; exact .inl ⟨h, fun e he => by cases he⟩
  ·rintro (h | ⟨l1, e, l2, h, _⟩)
   ·exact h.1
   ·simp at h
 | a :: r, hv, y => by
  have ih := setBy_eq s v x r (fun e he => hv e (List.mem_cons_of_mem _ he))
  have ha := hv a (by simp)
  show setBy s v r _ = x ↔ _
  rw [ih]
  by_cases hf : hoB a.whn s = true
  ·rw [if_pos ⟨ha, hf⟩]
   constructor
   ·rintro (⟨h1, h2⟩ | ⟨l1, e, l2, h1, h2, h3, h4⟩)
    ·exact .inr ⟨[], a, r, rfl, h1, hf, h2⟩
    ·exact .inr ⟨a :: l1, e, l2, by rw [h1]; rfl, h2, h3, h4⟩
   ·rintro (⟨h1, h2⟩ | ⟨l1, e, l2, h1, h2, h3, h4⟩)
    ·by_cases e : a.val = x
     ·exact .inl ⟨e, fun e' he => h2 e' (List.mem_cons_of_mem _ he)⟩
     ·have := h2 a (by simp) e
      rw [hf] at this; cases this
    ·cases l1 with
     | nil => simp at h1; obtain ⟨rfl, rfl⟩ := h1; exact .inl ⟨h2, h4⟩
     | cons b l1 => simp at h1; obtain ⟨rfl, rfl⟩ := h1; exact .inr ⟨l1, e, l2, rfl, h2, h3, h4⟩
  ·have hf' : hoB a.whn s = false := by simpa using hf
   rw [if_neg (fun h => hf h.2)]
   constructor
   ·rintro (⟨h1, h2⟩ | ⟨l1, e, l2, h1, h2, h3, h4⟩)
    ·refine .inl ⟨h1, fun e' he hne => ?_⟩
     rcases List.mem_cons.1 he with rfl | he
     ·exact hf'
     ·exact h2 e' he hne
    ·exact .inr ⟨a :: l1, e, l2, by rw [h1]; rfl, h2, h3, h4⟩
   ·rintro (⟨h1, h2⟩ | ⟨l1, e, l2, h1, h2, h3, h4⟩)
    ·exact .inl ⟨h1, fun e' he => h2 e' (List.mem_cons_of_mem _ he)⟩
    ·cases l1 with
     | nil => simp at h1; obtain ⟨rfl, rfl⟩ := h1; rw [h3] at hf'; cases hf'
     | cons b l1 => simp at h1; obtain ⟨rfl, rfl⟩ := h1; exact .inr ⟨l1, e, l2, rfl, h2, h3, h4⟩
/-- Right effects. -/
def EffsOk (vars : List Int) (es : List Eff) : Prop := ∀ e ∈ es, faB vars e.whn = true ∧ 0 ≤ e.var ∧ e.var < (vars.length : Int)
theorem EffsOk.on {es : List Eff} (h : EffsOk vars es) (v : Int) : ∀ e ∈ effsOn es v, faB vars e.whn = true := fun e he => (h e (mem_on.1 he).1).1
theorem CaseS.fa {es : List Eff} {f : Fct} (he : EffsOk vars es) (hf : faB vars [f] = true) : AllFa vars (CaseS vars es f) := by
 have ho := he.on f.1
 rintro z (h | ⟨l1, e, l2, h1, h2, h3⟩)
 ·exact SilS.fa ho (fun y hy => by rw [hy]; exact hf) z h
 ·refine SilS.fa (fun e' h' => ho e' (by rw [h1]; simp [h'])) (fun y hy => ?_) z h3
  rw [hy]; exact ho e (by rw [h1]; simp)
theorem has_eq {p : List Fct} {s : List Int} : Has (fun y => y = p) s ↔ hoB p s = true :=
 ⟨fun ⟨z, e, h⟩ => by rw [← e]; exact h, fun h => ⟨p, rfl, h⟩⟩
theorem ho_one {f : Fct} {s : List Int} (h0 : 0 ≤ f.1) (h1 : f.1 < (s.length : Int)) : hoB [f] s = true ↔ nth s f.1.toNat = f.2 := by
 rw [ho_iff]; simp [h0, h1]
theorem has_case {es : List Eff} {f : Fct} {s : List Int} (he : EffsOk vars es) (h0 : 0 ≤ f.1) (h1 : f.1 < (vars.length : Int)) (hs : stB vars s = true) :
  Has (CaseS vars es f) s ↔ nth (apE s es es.length) f.1.toNat = f.2 := by
 have hl := stB_len hs
 have ho := he.on f.1
 rw [apE_at h0 (by omega) (fun e h => (he e h).2.1) es.length (Nat.le_refl _), List.take_length, setBy_on, setBy_eq s f.1 f.2 _ (fun e h => (mem_on.1 h).2)]
 constructor
 ·rintro ⟨z, h | ⟨l1, e, l2, h2, h3, h4⟩, hz⟩
  ·have := (has_sil hs ho).1 ⟨z, h, hz⟩
   rw [has_eq, ho_one h0 (by omega)] at this
   exact .inl this
  ·have := (has_sil hs (fun e' h' => ho e' (by rw [h2]; simp [h']))).1 ⟨z, h4, hz⟩
   rw [has_eq] at this
   exact .inr ⟨l1, e, l2, h2, h3, this⟩
 ·rintro (h | ⟨l1, e, l2, h2, h3, h4⟩)
  ·rw [← ho_one h0 (by omega), ← has_eq] at h
   obtain ⟨z, hz, h5⟩ := (has_sil hs ho).2 h
   exact ⟨z, .inl hz, h5⟩
  ·rw [← has_eq] at h4
   obtain ⟨z, hz, h5⟩ := (has_sil hs (fun e' h' => ho e' (by rw [h2]; simp [h']))).2 h4
   exact ⟨z, .inr ⟨l1, e, l2, h2, h3, hz⟩, h5⟩
theorem PreS.fa {es : List Eff} (he : EffsOk vars es) : ∀ {p : List Fct} {A : PSet}, (∀ f ∈ p, faB vars [f] = true) → AllFa vars A → AllFa vars (PreS vars es p A)
 | [], A, _, hA => hA
 | f :: r, A, hp, hA => PreS.fa (p := r) he (fun x hx => hp x (List.mem_cons_of_mem _ hx)) (JoinS.fa hA (CaseS.fa he (hp f (by simp))))
theorem fa_each {p : List Fct} (h : faB vars p = true) : ∀ f ∈ p, faB vars [f] = true := fun f hf => by
 have := fa_inv h f hf
 exact faB_one this.1 this.2.1 this.2.2.1 this.2.2.2
theorem has_pre {es : List Eff} {s : List Int} (he : EffsOk vars es) (hs : stB vars s = true) : ∀ {p : List Fct} {A : PSet}, InV vars p →
  (Has (PreS vars es p A) s ↔ Has A s ∧ hoB p (apE s es es.length) = true)
 | [], A, _ => by unfold PreS; simp [ho_iff]
 | f :: r, A, hp => by
  have hf := hp f (by simp)
  have hl := stB_len hs
  unfold PreS
  rw [has_pre (p := r) he hs (fun x hx => hp x (List.mem_cons_of_mem _ hx)), has_join, has_case he hf.1 hf.2.1 hs, ho_iff, ho_iff]
  constructor
  ·rintro ⟨⟨h1, h2⟩, h3⟩
   refine ⟨h1, fun x hx => ?_⟩
   rcases List.mem_cons.1 hx with rfl | hx
   ·exact ⟨hf.1, by rw [apE_len]; omega, h2⟩
   ·exact h3 x hx
  ·rintro ⟨h1, h2⟩
   exact ⟨⟨h1, (h2 f (by simp)).2.2⟩, fun x hx => h2 x (List.mem_cons_of_mem _ hx)⟩
/-- Every element contains a least one. -/
theorem least_of (A : PSet) : ∀ n (z : List Fct), z.length = n → A z → ∃ y, A y ∧ Sub y z ∧ ∀ x, A x → Sub x y → ¬ x.length < y.length := by
 intro n
 induction n using Nat.strongRecOn with
 | ind n ih =>
  intro z hn hz
  by_cases h : ∃ x, A x ∧ Sub x z ∧ x.length < z.length
  ·obtain ⟨x, hx, hs, hl⟩ := h
   obtain ⟨y, hy, hys, hyl⟩ := ih x.length (by omega) x rfl hx
   exact ⟨y, hy, fun f hf => hs f (hys f hf), hyl⟩
  ·exact ⟨z, hz, fun f hf => hf, fun x hx hs hl => h ⟨x, hx, hs, hl⟩⟩
/-- An operator that is right. -/
structure OpOk (vars : List Int) (o : Opr) : Prop where
 pre : faB vars o.pre = true
 effs : EffsOk vars o.effs
theorem RegS.fa {o : Opr} {p : List Fct} (ho : OpOk vars o) (hp : faB vars p = true) : AllFa vars (RegS vars o p) := fun z hz =>
 PreS.fa ho.effs (fa_each hp) (fun y hy => by rw [hy]; exact ho.pre) z hz.1
/-- The states from which the operator leads into p are those that contain an element. -/
theorem has_reg {o : Opr} {p : List Fct} {s : List Int} (ho : OpOk vars o) (hp : faB vars p = true) (hs : stB vars s = true) :
  Has (RegS vars o p) s ↔ hoB o.pre s = true ∧ hoB p (apE s o.effs o.effs.length) = true := by
 rw [← has_eq (p := o.pre), ← has_pre ho.effs hs (fa_inv hp)]
 constructor
 ·rintro ⟨z, h1, h2⟩
  exact ⟨z, h1.1, h2⟩
 ·rintro ⟨z, h1, h2⟩
  obtain ⟨y, hy, hys, hyl⟩ := least_of _ z.length z rfl h1
  exact ⟨y, ⟨hy, hyl⟩, ho_sub h2 hys⟩
theorem PreS.sub {es : List Eff} : ∀ {p : List Fct} {A : PSet} {z : List Fct}, PreS vars es p A z → ∃ x, A x ∧ Sub x z
 | [], A, z, h => ⟨z, h, fun f hf => hf⟩
 | f :: r, A, z, h => by
  obtain ⟨y, ⟨x, c, hx, hc, hm⟩, hy⟩ := PreS.sub (p := r) h
  exact ⟨x, hx, fun g hg => hy g (mrg_left hm g hg)⟩
/-- Each element has the precondition. -/
theorem RegS.pre {o : Opr} {p z : List Fct} (h : RegS vars o p z) : Sub o.pre z := by
 obtain ⟨x, rfl, hs⟩ := PreS.sub h.1
 exact hs
theorem PreS.keep {es : List Eff} : ∀ {p : List Fct} {A : PSet} {z : List Fct}, (∀ f ∈ p, ∀ e ∈ es, e.var ≠ f.1) → PreS vars es p A z → Sub p z
 | [], A, z, _, _ => fun f hf => by cases hf
 | f :: r, A, z, hn, h => by
  have h1 := PreS.keep (p := r) (fun g hg => hn g (List.mem_cons_of_mem _ hg)) h
  obtain ⟨y, ⟨x, c, hx, hc, hm⟩, hy⟩ := PreS.sub (p := r) h
  have he : effsOn es f.1 = [] := by
   rw [List.eq_nil_iff_forall_not_mem]
   intro e h2
   rw [mem_on] at h2
   exact hn f (by simp) e h2.1 h2.2
  have hcf : c = [f] := by
   rcases hc with hc | ⟨l1, e, l2, h2, _⟩
   ·rw [he] at hc; exact hc
   ·rw [he] at h2; simp at h2
  intro g hg
  rcases List.mem_cons.1 hg with rfl | hg
  ·exact hy g (mrg_right hm g (by rw [hcf]; simp))
  ·exact h1 g hg
/-- Without an effect on a variable of p each element has p. -/
theorem RegS.keep {o : Opr} {p z : List Fct} (hn : ∀ f ∈ p, ∀ e ∈ o.effs, e.var ≠ f.1) (h : RegS vars o p z) : Sub p z := PreS.keep hn h.1
end
end

section
open Go.RowKit
set_option linter.unusedVariables false

/-- All right partial states of the first k variables. -/
def allP (vars : List Int) : Nat → List (List Fct)
 | 0 => [[]]
 | k + 1 => allP vars k ++ (List.range (nth vars k).toNat).flatMap fun (v : Nat) => (allP vars k).map fun p => p ++ [((k : Int), (v : Int))]
def npV (vars : List Int) : Nat := (allP vars vars.length).length
section
variable {vars : List Int}
theorem len_flat {α β : Type} (f : α → List β) (n : Nat) : ∀ (l : List α), (∀ a ∈ l, (f a).length = n) → (l.flatMap f).length = l.length * n
 | [], _ => by simp
 | a :: r, h => by
  rw [List.flatMap_cons, List.length_append, h a (by simp), len_flat f n r fun b hb => h b (List.mem_cons_of_mem _ hb), List.length_cons, Nat.succ_mul, Nat.add_comm]
theorem allP_len (k : Nat) : (allP vars (k + 1)).length = (allP vars k).length * ((nth vars k).toNat + 1) := by
 show (allP vars k ++ _).length = _
 rw [List.length_append, len_flat (n := (allP vars k).length) _ _ (fun v _ => by simp), List.length_range, Nat.mul_add, Nat.mul_one, Nat.mul_comm (nth vars k).toNat, Nat.add_comm]
theorem allP_mem : ∀ (k : Nat) (p : List Fct), Asc p → InV vars p → (∀ x ∈ p, x.1 < (k : Int)) → p ∈ allP vars k
 | 0, p, _, hi, hk => by
  have : p = [] := by
   rw [List.eq_nil_iff_forall_not_mem]
   intro x hx
   have := hk x hx; have := (hi x hx).1; omega
  subst this; simp [allP]
 | k + 1, p, ha, hi, hk => by
  show p ∈ allP vars k ++ _
  rw [List.mem_append]
  by_cases h : ∃ x ∈ p, x.1 = (k : Int)
  ·obtain ⟨x, hx, e⟩ := h
   right
   rw [List.mem_flatMap]
   have hxi := hi x hx
   refine ⟨x.2.toNat, ?_, ?_⟩
   ·rw [List.mem_range]
    rw [e] at hxi
    have : ((k : Int)).toNat = k := by omega
    rw [this] at hxi
    omega
   ·rw [List.mem_map]
    obtain ⟨a, b, rfl⟩ := List.append_of_mem hx
    have hb : b = [] := by
     rw [List.eq_nil_iff_forall_not_mem]
     intro y hy
     have h1 := hk y (by simp [hy])
     have h2 := (List.pairwise_append.1 ha).2.1
     have h3 := (List.pairwise_cons.1 h2).1 y hy
     omega
    subst hb
    have h2 := List.pairwise_append.1 ha
    refine ⟨a, allP_mem k a h2.1 (fun y hy => hi y (by simp [hy])) (fun y hy => ?_), ?_⟩
    ·have := h2.2.2 y hy x (by simp); omega
    ·have : x = ((k : Int), ((x.2.toNat : Nat) : Int)) := Prod.ext e (by show x.2 = _; omega)
     rw [← this]
  ·left
   refine allP_mem k p ha hi fun x hx => ?_
   have h1 := hk x hx
   have h2 : x.1 ≠ (k : Int) := fun e => h ⟨x, hx, e⟩
   omega
theorem np_bound {L : List (List Fct)} (hn : L.Nodup) (hf : ∀ p ∈ L, faB vars p = true) : L.length ≤ npV vars :=
 hn.length_le_of_subset fun p hp => allP_mem _ _ (fa_asc (hf p hp)) (fa_inv (hf p hp)) fun x hx => (fa_inv (hf p hp) x hx).2.1
theorem allP_le {m : Nat} (h : ∀ k, k < vars.length → nth vars k ≤ (m : Int)) : ∀ k, k ≤ vars.length → (allP vars k).length ≤ (m + 1) ^ k
 | 0, _ => Nat.le_refl _
 | k + 1, hk => by
  rw [allP_len, Nat.pow_succ]
  have h1 := h k (by omega)
  exact Nat.mul_le_mul (allP_le h k (by omega)) (by omega)
/-- Few variables with few values: few partial states. -/
theorem np_few (h4 : vars.length ≤ 4) (h : ∀ k, k < vars.length → nth vars k ≤ 4) : npV vars ≤ 625 := by
 have h1 := allP_le (m := 4) h vars.length (Nat.le_refl _)
 have h2 : (4 + 1) ^ vars.length ≤ (4 + 1) ^ 4 := Nat.pow_le_pow_right (by decide) h4
 unfold npV
 have h3 : (4 + 1) ^ 4 = 625 := rfl
 omega
end
end

section
open Go Go.RowKit
set_option linter.unusedVariables false

/-- Blocks that two growing rows and the caller have. -/
def B3 (base : Nat) (O S : Value) (b : Nat) : Prop := b < base ∨ O.ownBlock = some b ∨ S.ownBlock = some b
theorem B3.growS {w w' : World} {base : Nat} {O S S' : Value} (hk : Kb (fun b => S.ownBlock = some b) w w') (hat : S'.ownBlock = S.ownBlock ∨ S'.ownBlock = some w.heap.size) : Moves w w' (B3 base O S) (B3 base O S') :=
 ⟨hk.size, fun b hb hn => hk.block b hb fun e => hn (.inr (.inr e)), fun b hb h => by
  rcases h with h | h | h
  ·exact .inl h
  ·exact .inr (.inl h)
  ·rcases hat with e | e
   ·exact .inr (.inr (e ▸ h))
   ·rw [e] at h; cases h; omega⟩
theorem B3.growO {w w' : World} {base : Nat} {O O' S : Value} (hg : w.grownBy w' O.ownBlock) (hat : O'.ownBlock = O.ownBlock ∨ O'.ownBlock = some w.heap.size) : Moves w w' (B3 base O S) (B3 base O' S) :=
 Moves.grown hg (fun b h => .inr (.inl h)) fun b hb h => by
  rcases h with h | h | h
  ·exact .inl h
  ·rcases hat with e | e
   ·exact .inr (.inl (e ▸ h))
   ·rw [e] at h; cases h; omega
  ·exact .inr (.inr h)
/-- Which unions have been looked at. -/
def JnM (L M : List (List Fct)) (i j : Nat) (z : List Fct) : Prop := ∃ a b, a < L.length ∧ b < M.length ∧ (a < i ∨ (a = i ∧ b < j)) ∧ mrg (L.getD a []) (M.getD b []) = some z
theorem jnM_next {L M : List (List Fct)} {i : Nat} {z : List Fct} : JnM L M i M.length z ↔ JnM L M (i + 1) 0 z := by
 constructor
 ·rintro ⟨a, b, h1, h2, h3, h4⟩
  exact ⟨a, b, h1, h2, by omega, h4⟩
 ·rintro ⟨a, b, h1, h2, h3, h4⟩
  exact ⟨a, b, h1, h2, by omega, h4⟩
theorem jnM_step {L M : List (List Fct)} {i j : Nat} (hi : i < L.length) (hj : j < M.length) {z : List Fct} : JnM L M i (j + 1) z ↔ JnM L M i j z ∨ mrg (L.getD i []) (M.getD j []) = some z := by
 constructor
 ·rintro ⟨a, b, h1, h2, h3, h4⟩
  by_cases e : a = i ∧ b = j
  ·obtain ⟨rfl, rfl⟩ := e; exact .inr h4
  ·exact .inl ⟨a, b, h1, h2, by omega, h4⟩
 ·rintro (⟨a, b, h1, h2, h3, h4⟩ | h)
  ·exact ⟨a, b, h1, h2, by omega, h4⟩
  ·exact ⟨i, j, hi, hj, by omega, h⟩
theorem jnM_all {L M : List (List Fct)} {z : List Fct} : JnM L M L.length 0 z ↔ ∃ x ∈ L, ∃ y ∈ M, mrg x y = some z := by
 have g : ∀ {N : List (List Fct)} {k : Nat} (h : k < N.length), N.getD k [] = N[k] := fun {N k} h => by rw [List.getD_eq_getElem?_getD, List.getElem?_eq_getElem h]; rfl
 constructor
 ·rintro ⟨a, b, h1, h2, h3, h4⟩
  rw [g h1, g h2] at h4
  exact ⟨_, List.getElem_mem h1, _, List.getElem_mem h2, h4⟩
 ·rintro ⟨x, hx, y, hy, h⟩
  obtain ⟨a, h1, rfl⟩ := List.mem_iff_getElem.1 hx
  obtain ⟨b, h2, rfl⟩ := List.mem_iff_getElem.1 hy
  exact ⟨a, b, h1, h2, by omega, by rw [g h1, g h2]; exact h⟩
theorem hls_app (a b : List Hd) : hls (a ++ b) = hls a ++ hls b := by unfold hls; rw [List.map_append]
theorem hls_len (a : List Hd) : (hls a).length = a.length := by unfold hls; simp
/-- What has been made so far. -/
structure JnI (vars : List Int) (w : World) (L M : List (List Fct)) (i j : Nat) (os ss : List Hd) (O S : Value) (wr : World) : Prop where
 bel : Below w.heap.size w wr
 oO : wr.ownsRow w.heap.size 23 1 O os.length (os.map Hd.v)
 oS : wr.ownsRow w.heap.size 23 1 S ss.length (ss.map Hd.v)
 apt : Apt O S
 fac : ∀ h ∈ os, Fac wr (B3 w.heap.size O S) h.a h.l
 sub : ∀ h ∈ ss, h ∈ os
 same : ∀ z ∈ hls os, z ∈ hls ss
 srt : SrtL (hls ss)
 nodup : (hls os).Nodup
 mem : ∀ z, z ∈ hls os ↔ JnM L M i j z
 fa : ∀ z ∈ hls os, faB vars z = true
 len : os.length ≤ 1024
 slen : ss.length = os.length
section
variable {vars : List Int} {w wr w' : World} {L M : List (List Fct)} {i j : Nat} {os ss : List Hd} {O S : Value}
theorem JnI.up (h : JnI vars w L M i j os ss O S wr) (k : Below wr.heap.size wr w') : JnI vars w L M i j os ss O S w' :=
 { h with bel := h.bel.trans (k.mono h.bel.size), oO := own_below h.oO k, oS := own_below h.oS k, fac := fun x hx => (h.fac x hx).up k }
theorem JnI.next (h : JnI vars w L M i M.length os ss O S wr) : JnI vars w L M (i + 1) 0 os ss O S wr := { h with mem := fun z => (h.mem z).trans jnM_next }
theorem JnI.skip (h : JnI vars w L M i j os ss O S wr) (hi : i < L.length) (hj : j < M.length) (hs : ∀ z, mrg (L.getD i []) (M.getD j []) = some z → z ∈ hls os) : JnI vars w L M i (j + 1) os ss O S wr :=
 { h with mem := fun z => ⟨fun hz => (jnM_step hi hj).2 (.inl ((h.mem z).1 hz)), fun hz => ((jnM_step hi hj).1 hz).elim (h.mem z).2 (hs z)⟩ }
theorem JnI.nil (hw : Below w.heap.size w wr) : JnI vars w L M 0 0 [] [] (.slice none 0 0) (.slice none 0 0) wr where
 bel := hw
 oO := World.ownsRow_nil _ _ _ _
 oS := World.ownsRow_nil _ _ _ _
 apt := .inl rfl
 fac := fun h hh => by cases hh
 sub := fun h hh => by cases hh
 same := fun z hz => by cases hz
 srt := List.Pairwise.nil
 nodup := List.nodup_nil
 mem := fun z => ⟨(fun h => by cases h), (fun ⟨a, b, h1, h2, h3, h4⟩ => by omega)⟩
 fa := fun z hz => by cases hz
 len := by simp
 slen := rfl
/-- One more: the sorted row first. -/
theorem JnI.add {w1 w2 : World} {O' S' : Value} {k : Nat} {x : Hd} (h : JnI vars w L M i j os ss O S wr) (hi : i < L.length) (hj : j < M.length) (hm : mrg (L.getD i []) (M.getD j []) = some x.l) (hfa : faB vars x.l = true)
  (hx : Fac wr (B3 w.heap.size O S) x.a x.l) (hat : AtS (hls ss) x.l k) (hn : ¬ (k < (hls ss).length ∧ (hls ss).getD k [] = x.l)) (hl : os.length < 1024)
  (h1 : w1.ownsRow w.heap.size 23 1 S' (ss.length + 1) ((ss.map Hd.v).take k ++ [x.v] ++ (ss.map Hd.v).drop k)) (k1 : Kb (fun b => S.ownBlock = some b) wr w1) (a1 : S'.ownBlock = S.ownBlock ∨ S'.ownBlock = some wr.heap.size)
  {w1' : World} (u1 : Below w1.heap.size w1 w1') (h2 : w2.ownsRow w.heap.size 23 1 O' (os.length + 1) (os.map Hd.v ++ [x.v])) (g2 : w1'.grownBy w2 O.ownBlock) (a2 : O'.ownBlock = O.ownBlock ∨ O'.ownBlock = some w1'.heap.size) :
  JnI vars w L M i (j + 1) (os ++ [x]) (ss.take k ++ x :: ss.drop k) O' S' w2 := by
 have apt1 : Apt O S' := by
  rcases a1 with e | e
  ·unfold Apt; rw [e]; exact h.apt
  ·unfold Apt; rw [e]
   cases ho : O.ownBlock with
   | none => exact .inl rfl
   | some g => have := (h.oO.lt g ho).2; exact .inr (fun e => by cases e; omega)
 have oO1 : w1.ownsRow w.heap.size 23 1 O os.length (os.map Hd.v) := own_kb h.oO k1 (fun g hg e => by
  rcases h.apt with e2 | e2
  ·rw [e2] at hg; cases hg
  ·exact e2 (hg.trans e.symm))
 have oS2 : w2.ownsRow w.heap.size 23 1 S' (ss.length + 1) ((ss.map Hd.v).take k ++ [x.v] ++ (ss.map Hd.v).drop k) := (own_below h1 u1).kept g2 apt1.symm
 have m1 : Moves wr w2 (B3 w.heap.size O S) (B3 w.heap.size O' S') := ((B3.growS k1 a1).trans (Moves.up u1)).trans (B3.growO g2 a2)
 have hhl : hls (ss.take k ++ x :: ss.drop k) = (hls ss).take k ++ x.l :: (hls ss).drop k := by unfold hls; rw [List.map_append, List.map_cons, List.map_take, List.map_drop]
 have hnot : x.l ∉ hls os := fun hh => atS_mem h.srt hat hn (h.same _ hh)
 constructor
 ·exact ((k1.below (fun b hb e => by have := (h.oS.lt b e).1; omega) h.bel.size |> fun q => h.bel.trans q).trans (u1.mono (Nat.le_trans h.bel.size k1.size))).grown g2 (Nat.le_trans (Nat.le_trans h.bel.size k1.size) u1.size) (fun b hb => (h.oO.lt b hb).1)
 ·rw [List.length_append, List.map_append]; exact h2
 ·have : (ss.take k ++ x :: ss.drop k).length = ss.length + 1 := by have := hat.le; rw [hls_len] at this; simp; omega
  rw [this, List.map_append, List.map_cons, List.map_take, List.map_drop]
  simpa using oS2
 ·rcases a2 with e | e
  ·unfold Apt; rw [e]; exact apt1
  ·refine Apt.symm ?_
   unfold Apt; rw [e]
   cases hs : S'.ownBlock with
   | none => exact .inl rfl
   | some g => have := ((own_below h1 u1).lt g hs).2; exact .inr (fun e => by cases e; omega)
 ·intro y hy
  rcases List.mem_append.1 hy with hy | hy
  ·exact (h.fac y hy).move m1
  ·simp at hy; subst hy; exact hx.move m1
 ·intro y hy
  rw [List.mem_append]
  rcases List.mem_append.1 hy with hy | hy
  ·exact .inl (h.sub y (List.mem_of_mem_take hy))
  ·rcases List.mem_cons.1 hy with rfl | hy
   ·exact .inr (by simp)
   ·exact .inl (h.sub y (List.mem_of_mem_drop hy))
 ·intro z hz
  rw [hhl, ins_mem]
  rw [hls_app, List.mem_append] at hz
  rcases hz with hz | hz
  ·exact .inr (h.same z hz)
  ·left; simpa [hls] using hz
 ·rw [hhl]; exact atS_ins h.srt hat hn
 ·rw [hls_app, List.nodup_append]
  refine ⟨h.nodup, by simp [hls], fun a ha b hb e => ?_⟩
  have : b = x.l := by simpa [hls] using hb
  subst this; subst e
  exact hnot ha
 ·intro z
  rw [hls_app, List.mem_append, jnM_step hi hj, h.mem, hm]
  constructor
  ·rintro (h | h)
   ·exact .inl h
   ·right; rw [show z = x.l by simpa [hls] using h]
  ·rintro (h | h)
   ·exact .inl h
   ·right; cases h; simp [hls]
 ·intro z hz
  rw [hls_app, List.mem_append] at hz
  rcases hz with hz | hz
  ·exact h.fa z hz
  ·rw [show z = x.l by simpa [hls] using hz]; exact hfa
 ·rw [List.length_append]; simp; omega
 ·have := hat.le; rw [hls_len] at this; have := h.slen; simp; omega
end
end

section
open Go Go.RowKit
set_option linter.unusedVariables false

/-- A new list of partial states, or too many. -/
def ListRet (vars : List Int) (X : List Fct → Prop) (w : World) (e : Ending) (w' : World) : Prop :=
 (∃ (A : Option Addr) (c : Nat) (os : List Hd), e = .returned (.tuple #[.slice A os.length c, .nilIface]) ∧ Orl w' w.heap.size (fun b => b < w.heap.size ∨ (Value.slice A os.length c).ownBlock = some b) (.slice A os.length c) os ∧ (hls os).Nodup ∧ (∀ z, z ∈ hls os ↔ X z) ∧ (∀ z ∈ hls os, faB vars z = true) ∧ os.length ≤ 1024) ∨
 (e = .returned (.tuple #[.slice none 0 0, .iface 49 (.int .i64 5)]) ∧ 1025 ≤ npV vars)
theorem fac_b3 {w : World} {base B : Nat} {O S : Value} {A : Option Addr} {z : List Fct} {n m : Nat} {eO eS : TypeId} {xs ys : List Value} {w0 : World} (h : Fac w (fun b => b < w0.heap.size) A z) (h0 : base ≤ w0.heap.size) (hO : w0.ownsRow B eO 1 O n xs) (hS : w0.ownsRow B eS 1 S m ys) : Fac w (B3 base O S) A z :=
 h.sub fun b _ hb => by
  rcases hb with hb | hb | hb
  ·omega
  ·exact (hO.lt b hb).2
  ·exact (hS.lt b hb).2

set_option maxRecDepth 20000 in
set_option maxHeartbeats 16000000 in
theorem rjoin_any (vars : List Int) (us bs : List Hd) (A1 A2 : Option Addr) (c1 c2 : Nat) (w : World) (h1 : Rls w (fun _ => False) A1 us) (h2 : Rls w (fun _ => False) A2 bs) (f1 : ∀ h ∈ us, faB vars h.l = true) (f2 : ∀ h ∈ bs, faB vars h.l = true) (hv : vars.length ≤ 1000) :
  Calls Tryz.prog 100 #[.slice A1 us.length c1, .slice A2 bs.length c2] w fun e w' => ListRet vars (fun z => ∃ x ∈ hls us, ∃ y ∈ hls bs, mrg x y = some z) w e w' ∧ Below w.heap.size w w' := by
 have hl1 := h1.len
 have hl2 := h2.len
 have H1 := Lib.hid h1
 have H2 := Lib.hid h2
 have F1 := Lib.hid f1
 have F2 := Lib.hid f2
 obtain ⟨inf, hinf, iz0, iz1, iz2⟩ := info_parts ninfL
 clear h1 h2 f1 f2
 go_enter Tryz.func100, Tryz.ntmps100
 go_wp2
 go_loopw [6, 7, 18] (fun v6 v7 v18 wr => ∃ (i : Nat) (os ss : List Hd) (OA SA : Option Addr) (OC SC : Nat), v6 = .slice OA os.length OC ∧ v7 = .slice SA ss.length SC ∧ v18 = .int .i64 i ∧ i ≤ us.length ∧ Hid (JnI vars w (hls us) (hls bs) i 0 os ss (.slice OA os.length OC) (.slice SA ss.length SC) wr)) (fun _ _ v18 _ => us.length - (intOf v18).toNat)
 case atStart => exact ⟨0, [], [], none, none, 0, 0, rfl, rfl, rfl, by omega, Lib.hid (JnI.nil (Below.refl _ _))⟩
 case round =>
  obtain ⟨i, os, ss, OA, SA, OC, SC, rfl, rfl, rfl, hi, HJ⟩ := hrel
  obtain ⟨wt, rfl⟩ : ∃ wt : World, wt = wr := ⟨_, rfl⟩
  by_cases hlt : i < us.length
  ·obtain ⟨b1, o1, hA1, hb1, _, hc1⟩ := (H1.out.up HJ.out.bel).at_ hlt
   have d1 := hc1 i hlt
   obtain ⟨x, hx⟩ : ∃ x, x = hd us i := ⟨_, rfl⟩
   rw [← hx] at d1
   have HX := Lib.hid hx
   clear hc1 hx
   rw [hA1]
   go_wp2_with fail
   go_loopw [6, 7, 24] (fun v6 v7 v24 wr => ∃ (j : Nat) (os ss : List Hd) (OA SA : Option Addr) (OC SC : Nat), v6 = .slice OA os.length OC ∧ v7 = .slice SA ss.length SC ∧ v24 = .int .i64 j ∧ j ≤ bs.length ∧ Hid (JnI vars w (hls us) (hls bs) i j os ss (.slice OA os.length OC) (.slice SA ss.length SC) wr)) (fun _ _ v24 _ => bs.length - (intOf v24).toNat)
   case atStart => exact ⟨0, os, ss, OA, SA, OC, SC, rfl, rfl, rfl, by omega, HJ⟩
   case round =>
    clear HJ d1
    obtain ⟨j, os, ss, OA, SA, OC, SC, rfl, rfl, rfl, hj, HJ⟩ := hrel
    obtain ⟨wu, rfl⟩ : ∃ wu : World, wu = wr := ⟨_, rfl⟩
    by_cases hlt2 : j < bs.length
    ·obtain ⟨b2, o2, hA2, hb2, _, hc2⟩ := (H2.out.up HJ.out.bel).at_ hlt2
     have d2 := hc2 j hlt2
     obtain ⟨y, hy⟩ : ∃ y, y = hd bs j := ⟨_, rfl⟩
     rw [← hy] at d2
     have HY := Lib.hid hy
     have hfx : faB vars x.l = true := by rw [HX.out]; exact F1.out _ (hd_mem hlt)
     have hfy : faB vars y.l = true := by rw [hy]; exact F2.out _ (hd_mem hlt2)
     have hX1 : FactsAt wu wu.heap.size x.a x.l := by rw [HX.out]; exact ((H1.out.up HJ.out.bel).fac hlt).at_
     have hY1 : FactsAt wu wu.heap.size y.a y.l := by rw [hy]; exact ((H2.out.up HJ.out.bel).fac hlt2).at_
     have KJ := Lib.hid (pjoin_any x.l y.l x.a y.a x.c y.c wu hX1 hY1 (fa_va hfx) (fa_va hfy) (by have := fa_len hfx; omega) (by have := fa_len hfy; omega))
     have HFX := Lib.hid hfx
     have HFY := Lib.hid hfy
     have Hgx := Lib.hid (show (hls us).getD i [] = x.l by rw [HX.out]; exact hls_hd hlt)
     have Hgy := Lib.hid (show (hls bs).getD j [] = y.l by rw [hy]; exact hls_hd hlt2)
     have hia : i < (hls us).length := by rw [hls_len]; exact hlt
     have hjb : j < (hls bs).length := by rw [hls_len]; exact hlt2
     rw [hA2]
     have hzu := HJ.out.bel.size
     clear hc2 hy hfx hfy hX1 hY1
     go_wp2_with fail
     refine KJ.out.mono ?_
     rintro e w2 ⟨hcase, hb2⟩
     have HJ2 := Lib.hid (HJ.out.up hb2)
     have hzu2 := hb2.size
     have hsl : ss.length ≤ 1024 := by have := HJ.out.slen; have := HJ.out.len; omega
     have hol := HJ.out.len
     rcases hcase with ⟨z, ZA, zc, hmz, rfl, hfz⟩ | ⟨hmz, rfl⟩
     ·have HMZ := Lib.hid hmz
      have HFZ := Lib.hid (fac_b3 hfz hzu HJ.out.oO HJ.out.oS)
      have hzf := mrg_fa hmz HFX.out HFY.out
      have hzl := fa_len hzf
      have HZF := Lib.hid hzf
      have hrl : Rls w2 (fun _ => False) SA ss := Orl.rls ⟨HJ2.out.oS, fun h hh => (HJ2.out.fac h (HJ2.out.sub h hh)).sub (fun _ _ h => h.elim)⟩ (by omega) (fun _ _ _ h => h)
      have KB := Lib.hid (bsearch_any ss z SA ZA SC zc w2 hrl HFZ.out.at_ HJ2.out.srt)
      clear KJ hb2 hfz hmz hzf hrl d2
      go_wp2_with fail
      refine KB.out.mono ?_
      rintro e w3 ⟨⟨k, rfl, hat⟩, hb3⟩
      have HJ3 := Lib.hid (HJ2.out.up hb3)
      have HFZ3 := Lib.hid (HFZ.out.up hb3)
      have HAT := Lib.hid hat
      have hkl : k ≤ ss.length := by have := hat.le; rw [hls_len] at this; exact this
      have hz3 := hb3.size
      clear hb3 KB hat
      by_cases hfd : k < ss.length ∧ (hls ss).getD k [] = z
      ·have Hin := Lib.hid (show ∀ z', mrg ((hls us).getD i []) ((hls bs).getD j []) = some z' → z' ∈ hls os from fun z' h' => by
        rw [Hgx.out, Hgy.out, HMZ.out] at h'
        cases h'
        obtain ⟨h1, h2⟩ := hfd
        rw [← h2, hls_hd h1]
        exact List.mem_map.2 ⟨_, HJ3.out.sub _ (hd_mem h1), rfl⟩)
       have e0 : decide (k < ss.length ∧ (hls ss).getD k [] = z) = true := decide_eq_true hfd
       rw [e0]
       clear hfd
       go_wp2
       go_roundw
       case rel => exact ⟨j + 1, os, ss, OA, SA, OC, SC, rfl, rfl, by go_num, by omega, Lib.hid (HJ3.out.skip hia hjb Hin.out)⟩
       case measure => simp [intOf]; omega
      ·have e0 : decide (k < ss.length ∧ (hls ss).getD k [] = z) = false := decide_eq_false hfd
       rw [e0]
       have HNF := Lib.hid (show ¬ (k < (hls ss).length ∧ (hls ss).getD k [] = z) by rw [hls_len]; exact hfd)
       clear hfd e0
       by_cases hbig : os.length = 1024
       ·have Hnp := Lib.hid (show 1025 ≤ npV vars by
         have hnot : z ∉ hls os := fun hh => atS_mem HJ3.out.srt HAT.out HNF.out (HJ3.out.same _ hh)
         have hnd : (hls os ++ [z]).Nodup := by
          rw [List.nodup_append]
          refine ⟨HJ3.out.nodup, by simp, fun a ha b hb e => ?_⟩
          simp at hb; subst hb; subst e; exact hnot ha
         have := np_bound hnd (fun p hp => by
          rcases List.mem_append.1 hp with hp | hp
          ·exact HJ3.out.fa p hp
          ·simp at hp; rw [hp]; exact HZF.out)
         rw [List.length_append, hls_len, hbig] at this
         exact this)
        have e1 : ((os.length : Int) == 1024) = true := by rw [hbig]; rfl
        go_wp2
        refine bodyPost_ret (v := .tuple #[.slice none 0 0, .iface 49 (.int .i64 5)]) (by simp [results, Tryz.results100, go_sem]) rfl ⟨.inr ⟨rfl, Hnp.out⟩, HJ3.out.bel⟩
       ·have hol2 : os.length < 1024 := by omega
        have hbig2 : ¬ (os.length : Int) = 1024 := by omega
        obtain ⟨w4, hw4⟩ : ∃ w4, w4 = w3.alloc (.cells #[.slice ZA z.length zc] 23) := ⟨_, rfl⟩
        have HJ4 := Lib.hid (show JnI vars w (hls us) (hls bs) i j os ss (.slice OA os.length OC) (.slice SA ss.length SC) w4 by rw [hw4]; exact HJ3.out.up ((Below.refl _ _).alloc (Nat.le_refl _) _))
        have HFZ4 := Lib.hid (show Fac w4 (B3 w.heap.size (.slice OA os.length OC) (.slice SA ss.length SC)) ZA z by rw [hw4]; exact HFZ3.out.up ((Below.refl _ _).alloc (Nat.le_refl _) _))
        have HH4 := Lib.hid (show BxI w4 w3.heap.size 23 #[.slice ZA z.length zc] by rw [hw4]; exact BxI.new _ _ _)
        have hz4 : w4.heap.size = w3.heap.size + 1 := by rw [hw4]; simp
        have KI := Lib.hid (insL_any SA SC ss.length k (ss.map Hd.v) w3.heap.size 23 [.slice ZA z.length zc] HJ4.out.oS hkl (by omega) (by have := HJ4.out.bel.size; omega) HH4.out rfl (by intro u hu; simp at hu; subst hu; rfl) (by intro u hu; rw [List.mem_map] at hu; obtain ⟨h, _, rfl⟩ := hu; rfl) (fun g hg e => by have := (HJ3.out.oS.lt g hg).2; omega))
        go_wp2_with fail
        rw [← hw4]
        refine KI.out.mono ?_
        rintro e w5 ⟨⟨A5, c5, rfl, hown5, hat5⟩, hk5⟩
        have HO5 := Lib.hid hown5
        have HK5 := Lib.hid hk5
        have HA5 := Lib.hid hat5
        have hz5 := hk5.size
        have HOO5 := Lib.hid (own_kb HJ4.out.oO hk5 (fun g hg e => by
         rcases HJ4.out.apt with e2 | e2
         ·rw [e2] at hg; cases hg
         ·exact e2 (hg.trans e.symm)))
        have hb5 : w.heap.size ≤ w5.heap.size := by have := HJ4.out.bel.size; omega
        have HW4 := Lib.hid hw4
        clear hown5 hat5 hk5 KI hw4
        go_wp2_with (at_builtin; refine wpList_append_src (by rfl) _ _ 77 (by rfl) w.heap.size 23 inf (.slice none 0 0) 1 24 nundL hinf iz0 iz1 iz2 rfl (by decide) (.slice OA os.length OC) os.length (os.map Hd.v) (by rfl) (by exact HOO5.out.alloc _) (some ⟨w5.heap.size, 0, none⟩) 1 1 [.slice ZA z.length zc] (by rfl) (src_of (heap_alloc_new w5 _) rfl (by intro u hu; simp at hu; subst hu; rfl)) (by unfold maxLen; omega) (by omega) (by first | omega | (simp; done) | (simp; omega)) ?_; intro v6 w6 hown6 hgrow6 hat6; obtain ⟨A6, c6, rfl⟩ := own_shape hown6; have HO6 := Lib.hid hown6; have HG6 := Lib.hid hgrow6; have HA6 := Lib.hid hat6; clear hown6 hgrow6 hat6)
        have Hlen6 : (os ++ [(⟨ZA, zc, z⟩ : Hd)]).length = os.length + 1 := by simp
        have Hlen5 : (ss.take k ++ (⟨ZA, zc, z⟩ : Hd) :: ss.drop k).length = ss.length + 1 := by simp; omega
        have HJ6 := Lib.hid (JnI.add (x := (⟨ZA, zc, z⟩ : Hd)) HJ4.out hia hjb (by rw [Hgx.out, Hgy.out]; exact HMZ.out) HZF.out HFZ4.out HAT.out HNF.out hol2 HO5.out HK5.out HA5.out ((Below.refl _ _).alloc (Nat.le_refl _) _) HO6.out HG6.out HA6.out)
        go_roundw
        case rel => exact ⟨j + 1, os ++ [(⟨ZA, zc, z⟩ : Hd)], ss.take k ++ (⟨ZA, zc, z⟩ : Hd) :: ss.drop k, A6, A5, c6, c5, by rw [Hlen6], by rw [Hlen5], by go_num, by omega, Lib.hid (by rw [Hlen6, Hlen5]; exact HJ6.out)⟩
        case measure => simp [intOf]; omega
     ·have Hin := Lib.hid (show ∀ z', mrg ((hls us).getD i []) ((hls bs).getD j []) = some z' → z' ∈ hls os from fun z' h' => by
       rw [Hgx.out, Hgy.out, hmz] at h'; cases h')
      clear KJ hb2 hmz d2
      go_wp2
      go_roundw
      case rel => exact ⟨j + 1, os, ss, OA, SA, OC, SC, rfl, rfl, by go_num, by omega, Lib.hid (HJ2.out.skip hia hjb Hin.out)⟩
      case measure => simp [intOf]; omega
    ·have hjb : j = (hls bs).length := by rw [hls_len]; omega
     have HJN := Lib.hid (show JnI vars w (hls us) (hls bs) (i + 1) 0 os ss (.slice OA os.length OC) (.slice SA ss.length SC) wu from JnI.next (by rw [← hjb]; exact HJ.out))
     clear hjb
     go_wp2
     go_roundw
     case rel => exact ⟨i + 1, os, ss, OA, SA, OC, SC, rfl, rfl, by go_num, by omega, HJN⟩
     case measure => simp [intOf]; omega
  ·have hia : i = (hls us).length := by rw [hls_len]; omega
   have HF := Lib.hid (show ∀ z, z ∈ hls os ↔ ∃ x ∈ hls us, ∃ y ∈ hls bs, mrg x y = some z from fun z => (HJ.out.mem z).trans (by rw [hia]; exact jnM_all))
   clear hia
   go_wp2
   refine bodyPost_ret (v := .tuple #[.slice OA os.length OC, .nilIface]) (by simp [results, Tryz.results100, go_sem]) rfl ⟨.inl ⟨OA, OC, os, rfl, ⟨HJ.out.oO, fun h hh => (HJ.out.fac h hh).sub (fun b _ hb => hb.elim .inl (fun e => .inr (.inl e)))⟩, HJ.out.nodup, HF.out, HJ.out.fa, HJ.out.len⟩, HJ.out.bel⟩
end

end Go.Proofs.YtlkebhiaimijiaaGreatDoor

/- Texts laid together: LmY, LmCa, LmR, LmCb, CutD, LmCu, LmCv. -/
import Derived.Test.YtaampjhdgeoicaaMfA
import Derived.Test.YtaampjhdgeoicaaLmE
import Derived.Test.YtaampjhdgeoicaaCmpt
import Derived.Test.YtaampjhdgeoicaaLmD
import Derived.Test.YtaampjhdgeoicaaMtA
import Derived.Test.YtaampjhdgeoicaaMfC
namespace Go.Proofs.Ytaampjhdgeoicaa
set_option linter.unusedSimpArgs false
set_option linter.unusedVariables false
section
open Go Go.RowKit
set_option linter.unusedVariables false

end

section
open Go Go.RowKit
set_option linter.unusedVariables false

/-- Does an entry of the list achieve the fact? -/
noncomputable def unA (t : Tsk) (s : List Int) (f : Int × Int) (u : Un) : Bool := decide ((u.var, u.val) = f) && hsM u.needs (rcB t s f)
/-- The operators of the entries that achieve the fact. -/
noncomputable def clA (t : Tsk) (s : List Int) (f : Int × Int) (l : List Un) : List Int := (l.filter (unA t s f)).map fun u => (u.op : Int)
section
variable {t : Tsk} {s : List Int} {f : Int × Int}
theorem clA_app (a b : List Un) : clA t s f (a ++ b) = clA t s f a ++ clA t s f b := by unfold clA; rw [List.filter_append, List.map_append]
theorem unA_mk (k j : Nat) : unA t s f (mkU t k j) = acE t s f k j := by
  unfold unA acE
  show (decide ((_, _) = f) && hsM (_ ++ _) _) = _
  rw [hsM_app]
  rfl
theorem clA_step (k j : Nat) : clA t s f (usK t k (j + 1)) = clA t s f (usK t k j) ++ (if acE t s f k j then [(k : Int)] else []) := by
  rw [usK_succ, clA_app]
  congr 1
  unfold clA
  rw [List.filter_cons, unA_mk]
  cases acE t s f k j <;> simp [mkU]
theorem cl_inv (k : Nat) (base : Lib.compact (clA t s f (usN t k)) = achN t s f k) (lo : ∀ x ∈ clA t s f (usN t k), x < (k : Int)) : ∀ j,
    Lib.compact (clA t s f (usK t k j)) = achN t s f k ++ (if anyB j (acE t s f k) then [(k : Int)] else []) ∧
    (anyB j (acE t s f k) = true → (clA t s f (usK t k j)).getLast? = some (k : Int)) ∧
    (anyB j (acE t s f k) = false → clA t s f (usK t k j) = clA t s f (usN t k)) ∧ (∀ x ∈ clA t s f (usK t k j), x < (k : Int) + 1)
  | 0 => ⟨by rw [usK_zero, base]; simp [anyB_zero], fun h => by simp [anyB_zero] at h, fun _ => by rw [usK_zero], fun x hx => by rw [usK_zero] at hx; have := lo x hx; omega⟩
  | j + 1 => by
    obtain ⟨h1, h2, h3, h4⟩ := cl_inv k base lo j
    have ea : anyB (j + 1) (acE t s f k) = (anyB j (acE t s f k) || acE t s f k j) := anyB_succ _ _
    rw [clA_step]
    cases e : acE t s f k j
    · simp only [e, Bool.or_false] at ea
      rw [ea]
      simpa using ⟨h1, h2, h3, h4⟩
    · simp only [e, Bool.or_true] at ea
      rw [ea]
      simp only [ite_true]
      refine ⟨?_, fun _ => by simp, (fun h => by cases h), fun x hx => ?_⟩
      · rw [compact_snoc, h1]
        cases e2 : anyB j (acE t s f k)
        · rw [h3 e2]
          have : (clA t s f (usN t k)).getLast? ≠ some (k : Int) := fun hh => by
            have := lo _ (List.mem_of_getLast? hh)
            omega
          simp [this]
        · rw [h2 e2]; simp
      · rcases List.mem_append.1 hx with h | h
        · exact h4 x h
        · simp at h; omega
theorem cl_row : ∀ k, Lib.compact (clA t s f (usN t k)) = achN t s f k ∧ ∀ x ∈ clA t s f (usN t k), x < (k : Int)
  | 0 => ⟨rfl, fun x hx => by simp [clA, usN] at hx⟩
  | k + 1 => by
    obtain ⟨h1, h2⟩ := cl_row k
    obtain ⟨a1, _, _, a4⟩ := cl_inv k h1 h2 (opr t.ops k).effs.length
    rw [usK_end] at a1 a4
    refine ⟨?_, fun x hx => by have := a4 x hx; push_cast; exact this⟩
    rw [a1]
    cases e : anyB (opr t.ops k).effs.length (acE t s f k)
    · rw [achN_no (by unfold acB; exact e)]; simp
    · rw [achN_yes (by unfold acB; exact e)]; simp
/-- What Compact makes of the list is the achievers. -/
theorem cl_ach : Lib.compact (clA t s f (us t)) = ach t s f := (cl_row t.ops.length).1
theorem clA_len (l : List Un) : (clA t s f l).length ≤ l.length := by unfold clA; rw [List.length_map]; exact List.length_filter_le _ _
theorem clT_yes {l : List Un} {k : Nat} (h : k < l.length) (e : unA t s f (un l k) = true) : clA t s f (l.take (k + 1)) = clA t s f (l.take k) ++ [((un l k).op : Int)] := by
  rw [List.take_succ_eq_append_getElem h, clA_app]
  congr 1
  have : l[k] = un l k := by unfold un; simp [List.getD, List.getElem?_eq_getElem h]
  unfold clA
  rw [this, List.filter_cons, e]; rfl
theorem clT_no {l : List Un} {k : Nat} (h : k < l.length) (e : unA t s f (un l k) = false) : clA t s f (l.take (k + 1)) = clA t s f (l.take k) := by
  rw [List.take_succ_eq_append_getElem h, clA_app]
  have : l[k] = un l k := by unfold un; simp [List.getD, List.getElem?_eq_getElem h]
  have e2 : clA t s f [l[k]] = [] := by unfold clA; rw [this, List.filter_cons, e]; rfl
  rw [e2, List.append_nil]
end

set_option maxRecDepth 100000 in
set_option maxHeartbeats 8000000 in
theorem achs_any (t : Tsk) (q : LiesF) (G : Nat) (s : List Int) (AS : Option Addr) (cs : Nat) (a : Int × Int) (w : World) (hF : FindAt w G t q) (hs : IntsAt w w.heap.size AS s) (hst : stB t.vars s = true) (hr : Right t) :
    Calls Try.prog 79 #[.pointer (some ⟨G, 0, none⟩), .slice AS s.length cs, .agg #[.int .i64 a.1, .int .i64 a.2]] w fun e w' => (∃ v, e = .returned v ∧ GotI2 w' w.heap.size v (ach t s a)) ∧ Below w.heap.size w w' := by
  have K1 := Lib.hid (fun wx (hb : Below w.heap.size w wx) => reached_any t q G s AS cs a wx (hF.up hb) (hs.up hb) hst hr)
  have HR := Lib.hid hr
  have hul := usN_len (t := t) (fun k hk => hr.ne k hk) t.ops.length (Nat.le_refl _)
  have hul2 : (us t).length ≤ 262144 := by have := hr.no; have h := hul; show (usN t t.ops.length).length ≤ _; omega
  clear hr hst hul
  obtain ⟨inf, hi, iz0, iz1, iz2⟩ := info_parts infoI8
  obtain ⟨av, ag, ac, au, cv, cg, cc, cu⟩ := q
  obtain ⟨q0, q1, q2, q3, q4, q5, q6, q7, q8⟩ := hF
  dsimp only at *
  have HU := Lib.hid q8
  clear q1 q2 q3 q5 q6 q7 q8
  go_enter Try.func79, Try.ntmps79
  go_wp2_with fail
  refine (K1.out _ (by repeat (first | exact Below.refl _ _ | refine below_dN ?_ _ | refine Below.drew ?_ | refine Below.alloc ?_ (by first | omega | (simp; done) | (simp; omega)) _ | refine Below.setCell ?_ (by first | omega | (simp; done) | (simp; omega)) _ | refine below_step (by assumption) (by first | omega | (simp; done) | (simp; omega)) ?_))).mono ?_
  rintro e w1 ⟨⟨g, rb, rfl, hm⟩, hb1⟩
  have hbw1 : Below w.heap.size w w1 := (show Below w.heap.size w (w.alloc (.cells #[.int .i64 a.1, .int .i64 a.2] 108)) by repeat (first | exact Below.refl _ _ | refine below_dN ?_ _ | refine Below.drew ?_ | refine Below.alloc ?_ (by first | omega | (simp; done) | (simp; omega)) _ | refine Below.setCell ?_ (by first | omega | (simp; done) | (simp; omega)) _ | refine below_step (by assumption) (by first | omega | (simp; done) | (simp; omega)) ?_)).trans (hb1.mono (by simp))
  have z1 := hbw1.size
  have c0 : w1.cell? ⟨w.heap.size, 0, none⟩ = some (.int .i64 a.1) := (hb1.cell (p := ⟨w.heap.size, 0, none⟩) (by simp)).trans (by simp)
  have c1 : w1.cell? ⟨w.heap.size, 1, none⟩ = some (.int .i64 a.2) := (hb1.cell (p := ⟨w.heap.size, 1, none⟩) (by simp)).trans (by simp)
  have z2 : w.heap.size < w1.heap.size := by have := hb1.size; simp at this; omega
  have d3 := (hbw1.cell (p := ⟨G, 3, none⟩) q0).trans q4
  have gG : G < w1.heap.size := by omega
  have HM := Lib.hid hm
  obtain ⟨L, hL⟩ : ∃ L, L = us t := ⟨_, rfl⟩
  rw [← hL] at HU d3 hul2
  have HL := Lib.hid hL
  clear hm hb1 hL q4
  go_wp2
  go_loopw [8, 20] (fun v i wr => ∃ (k : Nat), k ≤ L.length ∧ i = .int .i64 k ∧ Hid (wr.ownsRow w1.heap.size 3 1 v (clA t s a (L.take k)).length (ic (clA t s a (L.take k)))) ∧ Below w1.heap.size w1 wr) (fun _ i _ => L.length - (intOf i).toNat)
  case atStart => exact ⟨0, by omega, rfl, Lib.hid (World.ownsRow_nil _ _ _ _), Below.refl _ _⟩
  case round =>
    obtain ⟨k, hk, rfl, hown, hbel⟩ := hrel
    have hbz := hbel.size
    have hbwr : Below w.heap.size w wr := hbw1.trans (hbel.mono z1)
    by_cases hlt : k < L.length
    · obtain ⟨b1, eU, hb1, hc1⟩ := HU.out (by omega)
      subst eU
      obtain ⟨S, c, f0, f1, f2, f3, f4⟩ := hc1 k hlt
      have hmem : un L k ∈ us t := by rw [← HL.out]; exact un_mem hlt
      have hu := un_right HR.out hmem
      have d0 := (hbwr.cell (p := ⟨b1, k * 4, none⟩) hb1).trans f0
      have d1 := (hbwr.cell (p := ⟨b1, k * 4 + 1, none⟩) hb1).trans f1
      have d2 := (hbwr.cell (p := ⟨b1, k * 4 + 2, none⟩) hb1).trans f3
      have d4 := (hbwr.cell (p := ⟨b1, k * 4 + 3, none⟩) hb1).trans f4
      have g1 : b1 < wr.heap.size := by have := hbwr.size; omega
      have e0 := (hbel.cell (p := ⟨w.heap.size, 0, none⟩) (by show w.heap.size < _; omega)).trans c0
      have e1 := (hbel.cell (p := ⟨w.heap.size, 1, none⟩) (by show w.heap.size < _; omega)).trans c1
      have ge : w.heap.size < wr.heap.size := by omega
      have lneed := hu.len
      have lcl : (clA t s a (L.take k)).length ≤ 262144 := by have h1 := clA_len (t := t) (s := s) (f := a) (L.take k); have h2 := List.length_take_le k L; omega
      have k0 : (0 : Int) ≤ (k : Int) := by omega
      have k1 : (k : Int) < (L.length : Int) := by omega
      have KH := Lib.hid (fun wx (hb : Below wr.heap.size wr wx) => has_any t (un L k).needs (rcB t s a) (some ⟨g, 0, none⟩) S t.vars.length c g rb wx (fun _ => rfl) ((HM.out.up hbel).up hb) ((f2.up hbwr).up hb) hu.rng)
      have Hyes := Lib.hid (fun h => clT_yes (t := t) (s := s) (f := a) hlt h)
      have Hno := Lib.hid (fun h => clT_no (t := t) (s := s) (f := a) hlt h)
      clear hc1 f0 f1 f2 f3 f4 hmem hu
      by_cases ee : (un L k).var = a.1 ∧ (un L k).val = a.2
      · have heql : ∀ w, (binOp .eql 108 (.agg #[.int .i64 (un L k).var, .int .i64 (un L k).val]) (.agg #[.int .i64 a.1, .int .i64 a.2])).run Try.prog w = .ok (.bool true) w := by intro w; simp [go_sem, ee.1, ee.2]
        have hpair : ((un L k).var, (un L k).val) = a := by rw [ee.1, ee.2]
        cases e2 : hsM (un L k).needs (rcB t s a)
        · have Hs := Lib.hid (Hno.out (by unfold unA; rw [e2]; simp))
          rw [e2] at KH
          clear Hyes Hno ee hpair e2
          go_wp2_with fail
          refine (KH.out _ (by repeat (first | exact Below.refl _ _ | refine below_dN ?_ _ | refine Below.drew ?_ | refine Below.alloc ?_ (by first | omega | (simp; done) | (simp; omega)) _ | refine Below.setCell ?_ (by first | omega | (simp; done) | (simp; omega)) _ | refine below_step (by assumption) (by first | omega | (simp; done) | (simp; omega)) ?_))).mono ?_
          rintro e w3 ⟨rfl, hb3⟩
          have hb4 := (show Below wr.heap.size wr (wr.alloc (.cells #[.int .i64 ((un L k).op : Int), .slice S (un L k).needs.length c, .int .i64 (un L k).var, .int .i64 (un L k).val] 143)) by repeat (first | exact Below.refl _ _ | refine below_dN ?_ _ | refine Below.drew ?_ | refine Below.alloc ?_ (by first | omega | (simp; done) | (simp; omega)) _ | refine Below.setCell ?_ (by first | omega | (simp; done) | (simp; omega)) _ | refine below_step (by assumption) (by first | omega | (simp; done) | (simp; omega)) ?_)).trans (hb3.mono (by simp))
          go_wp2
          go_roundw
          case rel => exact ⟨k + 1, by omega, by go_num, Lib.hid (by rw [Hs.out]; exact own_below hown.out hb4), hbel.trans (hb4.mono hbz)⟩
          case measure => simp [intOf]; omega
        · have Hs := Lib.hid (Hyes.out (by unfold unA; rw [e2, hpair]; simp))
          rw [e2] at KH
          clear Hyes Hno ee hpair e2
          go_wp2_with fail
          refine (KH.out _ (by repeat (first | exact Below.refl _ _ | refine below_dN ?_ _ | refine Below.drew ?_ | refine Below.alloc ?_ (by first | omega | (simp; done) | (simp; omega)) _ | refine Below.setCell ?_ (by first | omega | (simp; done) | (simp; omega)) _ | refine below_step (by assumption) (by first | omega | (simp; done) | (simp; omega)) ?_))).mono ?_
          rintro e w3 ⟨rfl, hb3⟩
          have hb4 := (show Below wr.heap.size wr (wr.alloc (.cells #[.int .i64 ((un L k).op : Int), .slice S (un L k).needs.length c, .int .i64 (un L k).var, .int .i64 (un L k).val] 143)) by repeat (first | exact Below.refl _ _ | refine below_dN ?_ _ | refine Below.drew ?_ | refine Below.alloc ?_ (by first | omega | (simp; done) | (simp; omega)) _ | refine Below.setCell ?_ (by first | omega | (simp; done) | (simp; omega)) _ | refine below_step (by assumption) (by first | omega | (simp; done) | (simp; omega)) ?_)).trans (hb3.mono (by simp))
          have hb14 := hbel.trans (hb4.mono hbz)
          have h0 : w3.cell? ⟨wr.heap.size, 0, none⟩ = some (.int .i64 ((un L k).op : Int)) := (hb3.cell (p := ⟨wr.heap.size, 0, none⟩) (by simp)).trans (by simp)
          have z3 : wr.heap.size < w3.heap.size := by have := hb3.size; simp at this; omega
          have Ho3 := Lib.hid (own_below hown.out hb4)
          have z14 := hb14.size
          clear hb3
          go_wp2_with (at_builtin; refine wpList_push rfl _ _ 38 rfl w1.heap.size 3 inf (.int .i64 0) 1 8 undI8 hi iz0 iz1 iz2 rfl (by decide) (by decide) u8 (clA t s a (L.take k)).length (ic (clA t s a (L.take k))) rfl (Ho3.out.alloc _) w3.heap.size 3 [.int .i64 ((un L k).op : Int)] rfl rfl (heap_alloc_new _ _) (one_one rfl) (by omega) (by first | omega | (simp; omega)) (B := w1.heap.size) (W := w1) (hb14.alloc z14 _) (Nat.le_refl _) ?_; intro v' w8 hown' hgrow hat hbw8; have Hown := Lib.hid hown'; clear hown' hgrow hat)
          go_roundw
          case rel => exact ⟨k + 1, by omega, by go_num, Lib.hid (by rw [Hs.out, List.length_append, ← ic_push]; exact Hown.out), hbw8⟩
          case measure => simp [intOf]; omega
      · have heql : ∀ w, (binOp .eql 108 (.agg #[.int .i64 (un L k).var, .int .i64 (un L k).val]) (.agg #[.int .i64 a.1, .int .i64 a.2])).run Try.prog w = .ok (.bool false) w := by intro w; simp [go_sem]; omega
        have Hs := Lib.hid (Hno.out (by unfold unA; rw [decide_eq_false (fun e => ee ⟨congrArg Prod.fst e, congrArg Prod.snd e⟩)]; rfl))
        clear Hyes Hno ee KH
        go_wp2
        go_roundw
        case rel => exact ⟨k + 1, by omega, by go_num, Lib.hid (by rw [Hs.out]; exact hown.out.alloc _), hbel.alloc hbz _⟩
        case measure => simp [intOf]; omega
    · obtain rfl : k = L.length := by omega
      have hx : clA t s a (L.take L.length) = clA t s a (us t) := by rw [List.take_length, HL.out]
      have Hown := Lib.hid (show wr.ownsRow w1.heap.size 3 1 u8 (clA t s a (us t)).length (ic (clA t s a (us t))) by rw [← hx]; exact hown.out)
      have Hlen := Lib.hid (show (clA t s a (us t)).length ≤ 1000000 by have h1 := clA_len (t := t) (s := s) (f := a) (us t); rw [HL.out] at hul2; omega)
      clear hown hx
      go_wp2_with fail
      refine (compact_any _ _ w1.heap.size _ Hown.out Hlen.out).mono ?_
      rintro e w3 ⟨⟨v3, rfl, hg3⟩, hb3⟩
      rw [cl_ach] at hg3
      have Hg3 := Lib.hid hg3
      clear hg3
      go_wp2
      go_ret
      exact ⟨⟨_, rfl, Hg3.out.mono z1⟩, hbwr.trans (hb3.mono z1)⟩
end

section
open Go Go.RowKit
set_option linter.unusedVariables false

section
variable {w w' : World} {B k : Nat} {v v' : Value} {rb L : Nat → Nat} {M M' : Nat → Nat → Bool} {xs : List Value}
end
section
variable {t : Tsk} {a : Int × Int} {M : Nat → Nat → Bool}
end
end

section
open Go Go.RowKit
set_option linter.unusedVariables false

end

section
open Go.RowKit
set_option linter.unusedVariables false

theorem cut_left {a b : List Cut} {k : Nat} (h : k < a.length) : cut (a ++ b) k = cut a k := by unfold cut; simp [List.getD, List.getElem?_append_left h]
theorem cut_last {a : List Cut} {u : Cut} : cut (a ++ [u]) a.length = u := by unfold cut; simp [List.getD]

section
variable {w w' : World} {B B' : Nat} {A : Option Addr}
end

theorem infoCu : (Try.prog.info? 82).map (fun i => (i.zero, i.size, i.bytes)) = some (some (.agg #[.slice none 0 0, .int .i64 0]), 2, 32) := by kernel_rfl
theorem undCu : Try.prog.underlying 39 = some (.slice 82) := by kernel_rfl

/-- Numbers that lie in another block than r. -/
def IntsNe (w : World) (r : Option Nat) (A : Option Addr) (l : List Int) : Prop := IntsAt w w.heap.size A l ∧ ∀ a, A = some a → 0 < l.length → some a.block ≠ r
theorem IntsNe.up {w w' : World} {r : Option Nat} {A : Option Addr} {l : List Int} (h : IntsNe w r A l) (hb : Below w.heap.size w w') : IntsNe w' r A l := ⟨h.1.up hb, h.2⟩
theorem IntsNe.grown {w w' : World} {r r' : Option Nat} {A : Option Addr} {l : List Int} (h : IntsNe w r A l) (hg : w.grownBy w' r) (hat : r' = r ∨ r' = some w.heap.size) : IntsNe w' r' A l := by
  refine ⟨⟨h.1.1, fun h0 => ?_⟩, fun a e h0 => ?_⟩
  · obtain ⟨b, off, e, hb, hc⟩ := h.1.2 h0
    have hne := h.2 _ e h0
    refine ⟨b, off, e, Nat.lt_of_lt_of_le hb hg.size, fun k hk => ?_⟩
    exact (World.cell?_of_block (a := ⟨b, off + k, none⟩) (hg.block b hb hne)).trans (hc k hk)
  · rcases hat with h1 | h1
    · rw [h1]; exact h.2 a e h0
    · rw [h1]
      obtain ⟨b, off, e2, hb, _⟩ := h.1.2 h0
      rw [e] at e2
      cases e2
      intro e3
      cases e3
      exact Nat.lt_irrefl _ hb
/-- Cuts in a row of the call's own. -/
def CuRow (w : World) (base : Nat) (v : Value) (l : List Cut) : Prop := ∃ xs, w.ownsRow base 82 2 v l.length xs ∧ ∀ k, k < l.length → ∃ S c, xs[k * 2]? = some (.slice S (cut l k).ops.length c) ∧ IntsNe w v.ownBlock S (cut l k).ops ∧ xs[k * 2 + 1]? = some (.int .i64 (cut l k).cost)
theorem CuRow.nil (w : World) (base : Nat) : CuRow w base (.slice none 0 0) [] := ⟨[], World.ownsRow_nil _ _ _ _, fun k hk => absurd hk (by simp)⟩
theorem CuRow.up {w w' : World} {base : Nat} {v : Value} {l : List Cut} (h : CuRow w base v l) (hb : Below w.heap.size w w') : CuRow w' base v l := by
  obtain ⟨xs, ho, hx⟩ := h
  refine ⟨xs, own_below ho hb, fun k hk => ?_⟩
  obtain ⟨S, c, h1, h2, h3⟩ := hx k hk
  exact ⟨S, c, h1, h2.up hb, h3⟩
theorem CuRow.push {w w' : World} {base : Nat} {v v' : Value} {l : List Cut} {xs : List Value} (ho : w.ownsRow base 82 2 v l.length xs) (hx : ∀ k, k < l.length → ∃ S c, xs[k * 2]? = some (.slice S (cut l k).ops.length c) ∧ IntsNe w v.ownBlock S (cut l k).ops ∧ xs[k * 2 + 1]? = some (.int .i64 (cut l k).cost))
    {S : Option Addr} {c : Nat} {u : Cut} (hI : IntsNe w v.ownBlock S u.ops) (hg : w.grownBy w' v.ownBlock) (hat : v'.ownBlock = v.ownBlock ∨ v'.ownBlock = some w.heap.size)
    (ho' : w'.ownsRow base 82 2 v' (l.length + 1) (xs ++ [.slice S u.ops.length c, .int .i64 u.cost])) : CuRow w' base v' (l ++ [u]) := by
  have hl : xs.length = l.length * 2 := ho.1
  refine ⟨xs ++ [.slice S u.ops.length c, .int .i64 u.cost], by rw [List.length_append]; exact ho', fun k hk => ?_⟩
  rw [List.length_append, List.length_singleton] at hk
  by_cases e : k < l.length
  · obtain ⟨S', c', h1, h2, h3⟩ := hx k e
    rw [cut_left e]
    exact ⟨S', c', by rw [List.getElem?_append_left (by omega)]; exact h1, h2.grown hg hat, by rw [List.getElem?_append_left (by omega)]; exact h3⟩
  · obtain rfl : k = l.length := by omega
    rw [cut_last]
    exact ⟨S, c, by rw [← hl]; simp, hI.grown hg hat, by rw [← hl]; simp⟩
def GotCs (w : World) (v : Value) (l : List Cut) : Prop := ∃ A c, v = .slice A l.length c ∧ ((A = none → c = 0) ∧ l.length ≤ c) ∧ CutsAt w w.heap.size A l
theorem gotCs_nil (w : World) : GotCs w (.slice none 0 0) [] := ⟨none, 0, rfl, ⟨fun _ => rfl, Nat.le_refl _⟩, by simp, fun h => absurd h (by simp)⟩
theorem CuRow.got {w : World} {base : Nat} {v : Value} {l : List Cut} (h : CuRow w base v l) (hl : l.length ≤ 1000000) : GotCs w v l := by
  obtain ⟨xs, ho, hx⟩ := h
  rcases ho.2 with ⟨rfl, h0⟩ | ⟨g, cap, cur, rfl, hb, hg, hnc, hcm, hcs, htk⟩
  · exact ⟨none, 0, by rw [h0], ⟨fun _ => rfl, by omega⟩, by omega, fun hp => absurd hp (by omega)⟩
  · refine ⟨_, cap, rfl, ⟨(fun e => by cases e), hnc⟩, by omega, fun _ => ⟨g, 0, rfl, (Array.getElem?_eq_some_iff.1 hg).1, fun k hk => ?_⟩⟩
    obtain ⟨S, c, h1, h2, h3⟩ := hx k hk
    have hc : ∀ (i : Nat) (u : Value), i < l.length * 2 → xs[i]? = some u → w.cell? ⟨g, i, none⟩ = some u := fun i u hi h => by
      rw [← htk, List.getElem?_take, if_pos hi] at h
      have := cell_of_row w g i cur 82 (0, 0) hg
      rw [show cur[i]? = some u by simpa using h] at this
      simpa using this
    exact ⟨S, c, by rw [Nat.zero_add]; exact hc _ _ (by omega) h1, h2.1, by rw [Nat.zero_add]; exact hc _ _ (by omega) h3⟩
end

section
open Go Go.RowKit
set_option linter.unusedVariables false

/-- The least cost of the first n operators, at most M. -/
def mnC (t : Tsk) (ops : List Int) (M : Int) : Nat → Int
  | 0 => M
  | n + 1 => min (mnC t ops M n) (opr t.ops (nth ops n).toNat).cost
theorem mnC_succ (t : Tsk) (ops : List Int) (M : Int) (n : Nat) : mnC t ops M (n + 1) = min (mnC t ops M n) (opr t.ops (nth ops n).toNat).cost := rfl
theorem mnC_le (t : Tsk) (ops : List Int) (M : Int) : ∀ n, mnC t ops M n ≤ M
  | 0 => Int.le_refl _
  | n + 1 => by have := mnC_le t ops M n; rw [mnC_succ]; omega
/-- Is there a cut with these operators? -/
def thB (l : List Cut) (ops : List Int) (k : Nat) : Bool := anyB k fun i => decide ((cut l i).ops = ops)
noncomputable def mkC (t : Tsk) (s : List Int) (M : Int) (f : Int × Int) : Cut := ⟨ach t s f, mnC t (ach t s f) M (ach t s f).length⟩
noncomputable def cuN (t : Tsk) (s : List Int) (F : List (Int × Int)) (M : Int) : Nat → List Cut
  | 0 => []
  | k + 1 => if thB (cuN t s F M k) (ach t s (fac F k)) (cuN t s F M k).length then cuN t s F M k else cuN t s F M k ++ [mkC t s M (fac F k)]
section
variable {t : Tsk} {s : List Int} {F : List (Int × Int)} {M : Int}
theorem cuN_yes {k : Nat} (h : thB (cuN t s F M k) (ach t s (fac F k)) (cuN t s F M k).length = true) : cuN t s F M (k + 1) = cuN t s F M k := by show (if _ then _ else _) = _; rw [if_pos h]
theorem cuN_no {k : Nat} (h : thB (cuN t s F M k) (ach t s (fac F k)) (cuN t s F M k).length = false) : cuN t s F M (k + 1) = cuN t s F M k ++ [mkC t s M (fac F k)] := by show (if _ then _ else _) = _; rw [if_neg (by rw [h]; simp)]
theorem cuN_len : ∀ k, (cuN t s F M k).length ≤ k
  | 0 => Nat.le_refl _
  | k + 1 => by
    have := cuN_len k
    cases h : thB (cuN t s F M k) (ach t s (fac F k)) (cuN t s F M k).length
    · rw [cuN_no h, List.length_append, List.length_singleton]; omega
    · rw [cuN_yes h]; omega
theorem mem_cuN : ∀ k, ∀ u ∈ cuN t s F M k, ∃ i, i < k ∧ u = mkC t s M (fac F i)
  | 0, u, h => by cases h
  | k + 1, u, h => by
    cases e : thB (cuN t s F M k) (ach t s (fac F k)) (cuN t s F M k).length
    · rw [cuN_no e] at h
      rcases List.mem_append.1 h with h | h
      · obtain ⟨i, hi, e⟩ := mem_cuN k u h; exact ⟨i, by omega, e⟩
      · rw [List.mem_singleton] at h; exact ⟨k, by omega, h⟩
    · rw [cuN_yes e] at h
      obtain ⟨i, hi, e⟩ := mem_cuN k u h; exact ⟨i, by omega, e⟩
theorem ach_rng {f : Int × Int} {i : Nat} (h : i < (ach t s f).length) : 0 ≤ nth (ach t s f) i ∧ nth (ach t s f) i < t.ops.length := by
  have hm : nth (ach t s f) i ∈ ach t s f := by unfold nth; simp [List.getD, h]
  obtain ⟨k, hk, e, _⟩ := mem_ach.1 hm
  rw [e]; omega
theorem ach_len {f : Int × Int} : (ach t s f).length ≤ t.ops.length := achN_len _
end

set_option maxHeartbeats 1000000 in
theorem cuEq_any (a b : List Int) (A1 A2 : Option Addr) (c1 c2 X : Nat) (y : Int) (w : World) (h1 : IntsAt w w.heap.size A1 a) (h2 : IntsAt w w.heap.size A2 b) (hX : w.cell? ⟨X, 0, none⟩ = some (.slice A2 b.length c2)) (hl : X < w.heap.size) :
    Calls Try.prog 81 #[.agg #[.slice A1 a.length c1, .int .i64 y], .pointer (some ⟨X, 0, none⟩)] w fun e w' => e = .returned (.bool (decide (a = b))) ∧ Below w.heap.size w w' := by
  have K := Lib.hid (fun wx (hb : Below w.heap.size w wx) => equal_any a b A1 A2 c1 c2 wx (h1.up hb) (h2.up hb))
  clear h1 h2
  go_enter Try.func81, Try.ntmps81
  go_wp2_with fail
  refine (K.out _ (by repeat (first | exact Below.refl _ _ | refine below_dN ?_ _ | refine Below.drew ?_ | refine Below.alloc ?_ (by first | omega | (simp; done) | (simp; omega)) _ | refine Below.setCell ?_ (by first | omega | (simp; done) | (simp; omega)) _ | refine below_step (by assumption) (by first | omega | (simp; done) | (simp; omega)) ?_))).mono ?_
  rintro e w1 ⟨rfl, hb1⟩
  go_wp2
  go_ret
  exact ⟨rfl, by repeat (first | exact Below.refl _ _ | refine below_dN ?_ _ | refine Below.drew ?_ | refine Below.alloc ?_ (by first | omega | (simp; done) | (simp; omega)) _ | refine Below.setCell ?_ (by first | omega | (simp; done) | (simp; omega)) _ | refine below_step (by assumption) (by first | omega | (simp; done) | (simp; omega)) ?_)⟩

set_option maxHeartbeats 2000000 in
theorem cuIdx_any (l : List Cut) (b : List Int) (A A2 : Option Addr) (c c2 X : Nat) (w : World) (hl : CutsAt w w.heap.size A l) (h2 : IntsAt w w.heap.size A2 b) (hX : w.cell? ⟨X, 0, none⟩ = some (.slice A2 b.length c2)) (hlt : X < w.heap.size) :
    Calls Try.prog 112 #[.slice A l.length c, .func (.func 81) #[] #[.pointer (some ⟨X, 0, none⟩)]] w fun e w' => (∃ i, e = .returned (.int .i64 i) ∧ decide (0 ≤ i) = thB l b l.length) ∧ Below w.heap.size w w' := by
  have K := Lib.hid (fun (a : List Int) A1 c1 y wx (hb : Below w.heap.size w wx) (h1 : IntsAt wx wx.heap.size A1 a) => cuEq_any a b A1 A2 c1 c2 X y wx h1 (h2.up hb) ((hb.cell (p := ⟨X, 0, none⟩) hlt).trans hX) (Nat.lt_of_lt_of_le hlt hb.size))
  have l1 := hl.len
  clear hX h2
  go_enter Try.func112, Try.ntmps112
  go_wp2
  go_loopw [8] (fun i wr => ∃ k : Nat, k ≤ l.length ∧ i = .int .i64 k ∧ Hid (thB l b k = false) ∧ Below w.heap.size w wr) (fun i _ => l.length - (intOf i).toNat)
  case atStart => exact ⟨0, by omega, rfl, rfl, Below.refl _ _⟩
  case round =>
    obtain ⟨k, hk, rfl, hB, hbel⟩ := hrel
    have hbz := hbel.size
    by_cases hltk : k < l.length
    · obtain ⟨b1, o1, S, c1, ea, hb1, d1, hI, d2⟩ := hl.at2 hbel hltk
      subst ea
      have g1 : b1 < wr.heap.size := by omega
      have k0 : (0 : Int) ≤ (k : Int) := by omega
      have k1 : (k : Int) < (l.length : Int) := by omega
      have KC := Lib.hid (K.out (cut l k).ops S c1 (cut l k).cost wr hbel (hI.up hbel))
      have HS : Hid (thB l b (k + 1) = (thB l b k || decide ((cut l k).ops = b))) := anyB_succ _ _
      clear hI
      cases e1 : decide ((cut l k).ops = b)
      · rw [e1] at KC
        go_wp2_with fail
        refine KC.out.mono ?_
        rintro e w' ⟨rfl, hb9⟩
        go_wp2
        go_roundw
        case rel => exact ⟨k + 1, by omega, by go_num, (by rw [HS.out, hB.out, e1]; rfl), hbel.trans (hb9.mono hbz)⟩
        case measure => simp [intOf]; omega
      · have Ht := Lib.hid (show thB l b l.length = true from anyB_true.2 ⟨k, hltk, e1⟩)
        rw [e1] at KC
        go_wp2_with fail
        refine KC.out.mono ?_
        rintro e w' ⟨rfl, hb9⟩
        go_wp2
        go_ret
        refine ⟨⟨_, rfl, ?_⟩, hbel.trans (hb9.mono hbz)⟩
        rw [Ht.out]
        simp
    · obtain rfl : k = l.length := by omega
      go_wp2
      go_ret
      refine ⟨⟨_, rfl, ?_⟩, hbel⟩
      rw [hB.out]
      rfl

set_option maxHeartbeats 1000000 in
theorem cuCon_any (l : List Cut) (b : List Int) (A A2 : Option Addr) (c c2 X : Nat) (w : World) (hl : CutsAt w w.heap.size A l) (h2 : IntsAt w w.heap.size A2 b) (hX : w.cell? ⟨X, 0, none⟩ = some (.slice A2 b.length c2)) (hlt : X < w.heap.size) :
    Calls Try.prog 80 #[.slice A l.length c, .func (.func 81) #[] #[.pointer (some ⟨X, 0, none⟩)]] w fun e w' => e = .returned (.bool (thB l b l.length)) ∧ Below w.heap.size w w' := by
  have k1 := Lib.hid (cuIdx_any l b A A2 c c2 X w hl h2 hX hlt)
  clear hl h2 hX
  go_enter Try.func80, Try.ntmps80
  go_wp2_with fail
  refine k1.out.mono ?_
  rintro e w1 ⟨⟨i, rfl, hi⟩, hb1⟩
  have Hi := Lib.hid hi
  clear hi
  go_wp2
  go_ret
  exact ⟨bool_ret Hi.out, by repeat (first | exact Below.refl _ _ | refine below_dN ?_ _ | refine Below.drew ?_ | refine Below.alloc ?_ (by first | omega | (simp; done) | (simp; omega)) _ | refine Below.setCell ?_ (by first | omega | (simp; done) | (simp; omega)) _ | refine below_step (by assumption) (by first | omega | (simp; done) | (simp; omega)) ?_)⟩
end

section
open Go Go.RowKit
set_option linter.unusedVariables false

noncomputable def cuL (t : Tsk) (s : List Int) : List Cut := cuN t s (lmL t s) 1125899906842624 (lmL t s).length
def CutRet (t : Tsk) (s : List Int) (e : Ending) (w' : World) : Prop := ∃ v, e = .returned (.tuple #[v, erV (lmC t s)]) ∧ GotCs w' v (cuL t s)
/-- The two cells of a cut. -/
def cf (S : Option Addr) (n c : Nat) (y : Int) (i : Nat) : Value := if i = 0 then .slice S n c else .int .i64 y
theorem lmL_len2 {t : Tsk} {s : List Int} (hr : Right t) : (lmL t s).length ≤ 4096 := by
  have h := alN_len hr.dom t.vars.length (Nat.le_refl _)
  have hn := hr.nv
  have h2 : (alF t.vars).length ≤ 4096 := by show (alN _ _).length ≤ _; omega
  unfold lmL
  split
  · exact Nat.le_trans (List.length_filter_le _ _) h2
  · simp
theorem row_new2 (w : World) (x y : Value) (T : TypeId) : (w.alloc (.cells #[x, y] T)).rowIs w.heap.size T 2 (fun i => if i = 0 then x else y) :=
  ⟨#[x, y], heap_alloc_new w _, rfl, fun i hi => by
    rcases i with _ | _ | i
    · rfl
    · rfl
    · exact absurd hi (by omega)⟩

set_option maxRecDepth 100000 in
set_option maxHeartbeats 8000000 in
theorem lcuts_any (t : Tsk) (q : LiesF) (G : Nat) (s : List Int) (AS : Option Addr) (cs : Nat) (w : World) (hF : FindAt w G t q) (hs : IntsAt w w.heap.size AS s) (hr : Right t) :
    Calls Try.prog 47 #[.pointer (some ⟨G, 0, none⟩), .slice AS s.length cs] w fun e w' => CutRet t s e w' ∧ Below w.heap.size w w' := by
  have K1 := Lib.hid (lfacts_any t q G s AS cs w hF hs hr)
  have K2 := Lib.hid (fun (a : Int × Int) wx (hb : Below w.heap.size w wx) hst => achs_any t q G s AS cs a wx (hF.up hb) (hs.up hb) hst hr)
  have hln := lmL_len2 (s := s) hr
  have o64 := hr.no
  have HR := Lib.hid hr
  have hst0 : lmC t s = 0 → stB t.vars s = true := fun h => by
    cases e : stB t.vars s
    · unfold lmC at h; rw [e] at h; cases h
    · rfl
  have HG := Lib.hid (show ∀ e w', CutRet t s e w' ↔ ∃ v, e = .returned (.tuple #[v, erV (lmC t s)]) ∧ GotCs w' v (cuN t s (lmL t s) 1125899906842624 (lmL t s).length) from fun e w' => Iff.rfl)
  have HFo := Lib.hid (show ∀ e w', FacRet t s e w' → ∃ v, e = .returned (.tuple #[v, erV (lmC t s)]) ∧ GotFs w' v (lmL t s) from fun e w' h => h)
  have hnil : lmC t s ≠ 0 → lmL t s = [] := fun h => by unfold lmL; rw [if_neg h]
  obtain ⟨F, hFe⟩ : ∃ F, lmL t s = F := ⟨_, rfl⟩
  rw [hFe] at hln HG HFo hnil
  obtain ⟨inf, hi, iz0, iz1, iz2⟩ := info_parts infoCu
  clear hr hFe
  by_cases hc : lmC t s = 0
  case neg =>
    have HF0 := Lib.hid (hnil hc)
    have Hne := Lib.hid (show erV (lmC t s) = .iface 68 (.int .i64 (lmC t s)) by unfold erV; rw [if_neg hc])
    clear hc K2 hst0 hnil hF
    go_enter Try.func47, Try.ntmps47
    go_wp2_with fail
    refine K1.out.mono ?_
    rintro e w1 ⟨hr1, hb1⟩
    obtain ⟨v1, rfl, A1, c1, rfl, _, hf1⟩ := HFo.out _ _ hr1
    rw [Hne.out]
    have HR1 := Lib.hid ((HG.out (.returned (.tuple #[.slice none 0 0, erV (lmC t s)])) w1).2 ⟨_, rfl, by rw [HF0.out]; exact gotCs_nil _⟩)
    clear hr1 hf1
    go_wp2
    refine bodyPost_ret (v := .tuple #[.slice none 0 0, .iface 68 (.int .i64 (lmC t s))]) (by simp [results, Try.results47, go_sem]) rfl ⟨?_, hb1⟩
    rw [← Hne.out]
    exact HR1.out
  have Hst := Lib.hid (hst0 hc)
  have Hc := Lib.hid hc
  obtain ⟨av, ag, ac, au, cv, cg, cc, cu⟩ := q
  obtain ⟨q0, q1, q2, q3, q4, q5, q6, q7, q8⟩ := hF
  dsimp only at *
  clear hc hst0 hnil q1 q2 q4 q5 q6 q8
  go_enter Try.func47, Try.ntmps47
  go_wp2_with fail
  refine K1.out.mono ?_
  rintro e w1 ⟨hr1, hbw1⟩
  obtain ⟨v1, rfl, A1, c1, rfl, _, hf1⟩ := HFo.out _ _ hr1
  rw [Hc.out, erV_0]
  have Hf1 := Lib.hid hf1
  have z1 := hbw1.size
  clear hr1 hf1
  go_wp2
  go_loopw [8, 25] (fun v i wr => ∃ (k : Nat), k ≤ F.length ∧ i = .int .i64 k ∧ Hid (CuRow wr w1.heap.size v (cuN t s F 1125899906842624 k)) ∧ Below w1.heap.size w1 wr) (fun _ i _ => F.length - (intOf i).toNat)
  case atStart => exact ⟨0, by omega, rfl, Lib.hid (CuRow.nil _ _), Below.refl _ _⟩
  case round =>
    obtain ⟨k, hk, rfl, hrow, hbel⟩ := hrel
    have hbz := hbel.size
    have hbwr : Below w.heap.size w wr := hbw1.trans (hbel.mono z1)
    have hcl := cuN_len (t := t) (s := s) (F := F) (M := 1125899906842624) k
    obtain ⟨A0, c0, rfl, hA0, hC0⟩ := hrow.out.got (by omega)
    have HC0 := Lib.hid hC0
    clear hC0
    by_cases hlt : k < F.length
    · obtain ⟨b1, o1, ea, hb1, hc1⟩ := Hf1.out.at_ hlt
      subst ea
      have d1 := (hbel.cell (p := ⟨b1, o1 + k * 2, none⟩) hb1).trans (hc1 k hlt).1
      have d2 := (hbel.cell (p := ⟨b1, o1 + k * 2 + 1, none⟩) hb1).trans (hc1 k hlt).2
      have g1 : b1 < wr.heap.size := by omega
      have k0 : (0 : Int) ≤ (k : Int) := by omega
      have k1 : (k : Int) < (F.length : Int) := by omega
      obtain ⟨wo, rfl⟩ : ∃ wo : World, wo = wr := ⟨_, rfl⟩
      have hbA : Below wo.heap.size wo (wo.alloc (.cells #[.int .i64 (fv F k), .int .i64 (fx F k)] 108)) := (Below.refl _ _).alloc (Nat.le_refl _) _
      have K3 := Lib.hid (K2.out (fac F k) _ (hbwr.trans (hbA.mono hbwr.size)) Hst.out)
      clear hc1
      go_wp2_with fail
      refine K3.out.mono ?_
      rintro e w3 ⟨⟨v3, rfl, S, c3, rfl, hS3, hI3, hlo3⟩, hb3⟩
      have hbo3 : Below wo.heap.size wo w3 := hbA.trans (hb3.mono (by simp))
      have hb13 := hbel.trans (hbo3.mono hbz)
      have z3 : wo.heap.size < w3.heap.size := by have := hb3.size; simp at this; omega
      have hl3 : ∀ a, S = some a → wo.heap.size < a.block := fun a e => by have := hlo3 a e; simp at this; omega
      obtain ⟨O, hO⟩ : ∃ O, ach t s (fac F k) = O := ⟨_, rfl⟩
      have Horg := Lib.hid (show ∀ i, i < O.length → 0 ≤ nth O i ∧ nth O i < t.ops.length from fun i hi => by rw [← hO] at hi ⊢; exact ach_rng hi)
      have hOl : O.length ≤ t.ops.length := by rw [← hO]; exact ach_len
      have Hyes := Lib.hid (fun h => cuN_yes (t := t) (s := s) (F := F) (M := 1125899906842624) (k := k) h)
      have Hno := Lib.hid (fun h => cuN_no (t := t) (s := s) (F := F) (M := 1125899906842624) (k := k) h)
      have hmk : mkC t s 1125899906842624 (fac F k) = ⟨O, mnC t O 1125899906842624 O.length⟩ := by unfold mkC; rw [hO]
      rw [hO] at Hyes Hno hI3
      rw [hmk] at Hno
      rw [hO]
      have HI3 := Lib.hid hI3
      have Hl3 := Lib.hid hl3
      have Hrow3 := Lib.hid (hrow.out.up hbo3)
      have Hrw := hrow
      have hbB : Below w3.heap.size w3 (w3.alloc (.cells #[.slice S O.length c3, .int .i64 1125899906842624] 82)) := (Below.refl _ _).alloc (Nat.le_refl _) _
      have hbo4 := hbo3.trans (hbB.mono hbo3.size)
      have HX := Lib.hid (row_new2 w3 (.slice S O.length c3) (.int .i64 1125899906842624) 82)
      have K4 := Lib.hid (cuCon_any (cuN t s F 1125899906842624 k) O A0 S c0 c3 w3.heap.size (w3.alloc (.cells #[.slice S O.length c3, .int .i64 1125899906842624] 82)) (HC0.out.up hbo4) (hI3.up hbB) (HX.out.cell (i := 0) (by omega)) (by simp))
      clear hI3 hl3 hlo3 d1 d2 g1 K3 hO hmk hrow hA0
      cases e5 : thB (cuN t s F 1125899906842624 k) O (cuN t s F 1125899906842624 k).length
      case true =>
        have Hs := Lib.hid (Hyes.out e5)
        rw [e5] at K4
        clear Hyes Hno e5
        go_wp2_with fail
        refine K4.out.mono ?_
        rintro e w5 ⟨rfl, hb5⟩
        have hbo5 := hbo4.trans (hb5.mono (by have := hbo3.size; simp; omega))
        go_wp2
        go_roundw
        case rel => exact ⟨k + 1, by omega, by go_num, Lib.hid (by rw [Hs.out]; exact Hrw.out.up hbo5), hbel.trans (hbo5.mono hbz)⟩
        case measure => simp [intOf]; omega
      have Hs := Lib.hid (Hno.out e5)
      rw [e5] at K4
      clear Hyes Hno e5
      go_wp2_with fail
      refine K4.out.mono ?_
      rintro e w5 ⟨rfl, hb5⟩
      have hb35 : Below w3.heap.size w3 w5 := hbB.trans (hb5.mono (by simp))
      have hX5 := row_up HX.out hb5
      have z5 : w3.heap.size < w5.heap.size := by have := hb5.size; simp at this; omega
      have u0 := hX5.cell (i := 0) (by omega)
      simp only [↓reduceIte] at u0
      have HX5 : Hid (w5.rowIs w3.heap.size 82 2 (cf S O.length c3 1125899906842624)) := hX5
      clear hX5 hb5
      go_wp2
      go_loopw [40] (fun i wr => ∃ (j : Nat) (y : Int), j ≤ O.length ∧ i = .int .i64 j ∧ Hid (y = mnC t O 1125899906842624 j) ∧ Hid (wr.rowIs w3.heap.size 82 2 (cf S O.length c3 y)) ∧ Hid (w3.heap.size < wr.heap.size) ∧ Below w3.heap.size w3 wr) (fun i _ => O.length - (intOf i).toNat)
      case atStart => exact ⟨0, _, by omega, rfl, Lib.hid rfl, HX5, Lib.hid z5, hb35⟩
      case round =>
        clear u0
        obtain ⟨j, y, hj, rfl, hy, hX, hz, hb3r⟩ := hrel
        have hzr := hz.out
        have hbor : Below wo.heap.size wo wr := hbo3.trans (hb3r.mono hbo3.size)
        have hbw := hbwr.trans (hbor.mono hbwr.size)
        have u0 := hX.out.cell (i := 0) (by omega)
        have u1 := hX.out.cell (i := 1) (by omega)
        have u2 := hX.out.frozen 1
        simp only [cf, ↓reduceIte, Nat.one_ne_zero] at u0 u1
        by_cases hltj : j < O.length
        · obtain ⟨bs, os, es, hbs, hcs⟩ := HI3.out.at_ hltj
          subst es
          obtain ⟨x, hx⟩ : ∃ x : Nat, nth O j = (x : Int) := ⟨(nth O j).toNat, by have := Horg.out j hltj; omega⟩
          have hxl : x < t.ops.length := by have := Horg.out j hltj; omega
          have d0 := (hb3r.cell (p := ⟨bs, os + j, none⟩) hbs).trans (hcs j hltj)
          rw [hx] at d0
          obtain ⟨bc, oc, ec, hbc, hcc⟩ := q7.at_ (k := x) (by rw [cosN_len]; exact hxl)
          subst ec
          have d1 := (hbw.cell (p := ⟨bc, oc + x, none⟩) hbc).trans (hcc x (by rw [cosN_len]; exact hxl))
          rw [cosN_nth hxl] at d1
          have d2 := (hbw.cell (p := ⟨G, 2, none⟩) q0).trans q3
          have gs : bs < wr.heap.size := by omega
          have gc : bc < wr.heap.size := by have := hbw.size; omega
          have gG : G < wr.heap.size := by have := hbw.size; omega
          have j0 : (0 : Int) ≤ (j : Int) := by omega
          have j1 : (j : Int) < (O.length : Int) := by omega
          have x0 : (0 : Int) ≤ (x : Int) := by omega
          have x1 : (x : Int) < (t.ops.length : Int) := by omega
          have HM := Lib.hid (show mnC t O 1125899906842624 (j + 1) = min y (opr t.ops x).cost by rw [mnC_succ, ← hy.out, hx]; simp)
          have hcl5 := cosN_len t t.ops.length
          clear hcs hcc hx hcl5
          obtain ⟨Cx, hCx⟩ : ∃ C, (opr t.ops x).cost = C := ⟨_, rfl⟩
          rw [hCx] at d1 HM
          clear hCx
          go_wp2_with fail
          refine wp_region_G 9 (fun w' => w'.cell? ⟨w3.heap.size, 1, none⟩ = some (.int .i64 y) ∧ w'.cell? ⟨G, 2, none⟩ = some (.slice (some ⟨bc, oc, none⟩) t.ops.length cc) ∧ w'.cell? ⟨bc, oc + x, none⟩ = some (.int .i64 Cx)) (by kernel_rfl) (⟨u1, d2, d1⟩) ?_
          intro hG0
          refine wpS1 0 hG0 ?_; intro hG1; clear hG0
          refine wpS2 1 hG1 ?_; intro hG2; clear hG1
          refine wpS1 2 hG2 ?_; intro hG3; clear hG2
          refine wpS1 3 hG3 ?_; intro hG4; clear hG3
          refine wpS1 4 hG4 ?_; intro hG5; clear hG4
          refine wpS2 5 hG5 ?_; intro hG6; clear hG5
          refine wpS1 6 hG6 ?_; intro hG7; clear hG6
          refine wpS1 7 hG7 ?_; intro hG8; clear hG7
          refine wpS2 8 hG8 ?_; intro hG9; clear hG8
          refine wpAnyG_ready (rs := [9]) (by kernel_rfl) (by simp) (AllG.cons rfl hG9 (fun K hK => ?_) AllG.nil)
          (go_simp)
          refine hK.out _ _ (Or.inl rfl) (fun hG10 => wpN ?_); clear hK hG9
          refine wpS1 10 hG10 ?_; intro hG11; clear hG10
          refine wpAnyG_ready (rs := [11]) (by kernel_rfl) (by simp) (AllG.cons rfl hG11 (fun K hK => ?_) AllG.nil)
          (go_simp)
          refine hK.out _ _ (Or.inl rfl) (fun hG12 => wpN ?_); clear hK hG11
          refine wpAnyG_done (by kernel_rfl) ?_ _; clear hG12
          go_wp2
          go_roundw
          case rel => exact ⟨j + 1, min y Cx, by omega, by go_num, Lib.hid HM.out.symm, Lib.hid (row_up ((hX.out.set 1 (.int .i64 (min y Cx))).congr (g := cf (some ⟨bs, os, none⟩) O.length c3 (min y Cx)) (fun i hi => by unfold cf; rcases i with _ | _ | i <;> first | rfl | exact absurd hi (by omega))) (Below.refl _ _).drew), Lib.hid (by show _ < (World.setCell _ _ _).heap.size; simpa [World.setCell] using hzr), (hb3r.setCell (p := ⟨w3.heap.size, 1, none⟩) (Nat.le_refl _) _).drew⟩
          case measure => simp [intOf]; omega
        · obtain rfl : j = O.length := by omega
          obtain ⟨xs, ho, hx⟩ := Hrw.out.up hbor
          have hne : IntsNe wr (Value.slice A0 (cuN t s F 1125899906842624 k).length c0).ownBlock S O := ⟨HI3.out.up hb3r, fun a e _ e2 => by
            obtain ⟨_, ho1, _⟩ := Hrw.out
            have h1 := (ho1.lt a.block e2.symm).2
            have h2 := Hl3.out a e
            omega⟩
          have HN := Lib.hid hne
          have Ho := Lib.hid ho
          have Hx := Lib.hid hx
          have hb1r := hb13.trans (hb3r.mono hb13.size)
          have hz1r := hb1r.size
          have Hy := hy
          clear ho hx hne
          go_wp2_with (at_builtin; refine wpList_push rfl _ _ 39 rfl w1.heap.size 82 inf (.agg #[.slice none 0 0, .int .i64 0]) 2 32 undCu hi iz0 iz1 iz2 rfl (by decide) (by decide) _ (cuN t s F 1125899906842624 k).length xs rfl (Ho.out.alloc _) wr.heap.size 82 [.slice S O.length c3, .int .i64 y] rfl rfl (heap_alloc_new _ _) (two_one rfl rfl) (by omega) (by first | omega | (simp; omega)) (B := w1.heap.size) (W := w1) (hb1r.alloc hz1r _) (Nat.le_refl _) ?_; intro v' w8 hown' hgrow hat hbw8; have Hown := Lib.hid hown'; have Hgrow := Lib.hid hgrow; have Hat := Lib.hid hat; clear hown' hgrow hat)
          have Hrow8 := Lib.hid (CuRow.push (Ho.out.alloc (.cells #[.slice S O.length c3, .int .i64 y] 82)) (fun i hi => by obtain ⟨S', c', h1, h2, h3⟩ := Hx.out i hi; exact ⟨S', c', h1, h2.up ((Below.refl _ _).alloc (Nat.le_refl _) _), h3⟩) (u := ⟨O, y⟩) (S := S) (c := c3) (HN.out.up ((Below.refl _ _).alloc (Nat.le_refl _) _)) Hgrow.out Hat.out Hown.out)
          go_wp2
          go_roundw
          case rel => exact ⟨k + 1, by omega, by go_num, Lib.hid (by rw [Hs.out, ← Hy.out]; exact Hrow8.out), hbw8⟩
          case measure => simp [intOf]; omega
    · obtain rfl : k = F.length := by omega
      have HP := Lib.hid ((HG.out (.returned (.tuple #[.slice A0 (cuN t s F 1125899906842624 F.length).length c0, .nilIface])) wr).2 ⟨_, by rw [Hc.out, erV_0], A0, c0, rfl, hA0, HC0.out⟩)
      clear hrow
      go_wp2
      refine bodyPost_ret (v := .tuple #[.slice A0 (cuN t s F 1125899906842624 F.length).length c0, .nilIface]) (by simp [results, Try.results47, go_sem]) rfl ⟨HP.out, hbwr⟩
end

end Go.Proofs.Ytaampjhdgeoicaa

/- landmark: achievers, Achievers. -/
import Derived.Test.YthhfckjddknmeaaCmpt
import Derived.Test.YthhfckjddknmeaaLmE
import Derived.Test.YthhfckjddknmeaaLmY
namespace Go.Proofs.Ythhfckjddknmeaa
set_option linter.unusedSimpArgs false
set_option linter.unusedVariables false
open Go Go.RowKit
set_option linter.unusedVariables false

/-- Does an entry of the list achieve the fact? -/
noncomputable def unA (t : Tsk) (s : List Int) (f : Int × Int) (u : Un) : Bool := decide ((u.var, u.val) = f) && hsM u.needs (rcB t s f)
/-- The operators of the entries that achieve the fact. -/
noncomputable def clA (t : Tsk) (s : List Int) (f : Int × Int) (l : List Un) : List Int := (l.filter (unA t s f)).map fun u => (u.op : Int)
section
variable {t : Tsk} {s : List Int} {f : Int × Int}
theorem clA_app (a b : List Un) : clA t s f (a ++ b) = clA t s f a ++ clA t s f b := by unfold clA; rw [List.filter_append, List.map_append]
theorem unA_mk (k j : Nat) : unA t s f (mkU t k j) = acE t s f k j := by
  unfold unA acE
  show (decide ((_, _) = f) && hsM (_ ++ _) _) = _
  rw [hsM_app]
  rfl
theorem clA_step (k j : Nat) : clA t s f (usK t k (j + 1)) = clA t s f (usK t k j) ++ (if acE t s f k j then [(k : Int)] else []) := by
  rw [usK_succ, clA_app]
  congr 1
  unfold clA
  rw [List.filter_cons, unA_mk]
  cases acE t s f k j <;> simp [mkU]
theorem cl_inv (k : Nat) (base : Lib.compact (clA t s f (usN t k)) = achN t s f k) (lo : ∀ x ∈ clA t s f (usN t k), x < (k : Int)) : ∀ j,
    Lib.compact (clA t s f (usK t k j)) = achN t s f k ++ (if anyB j (acE t s f k) then [(k : Int)] else []) ∧
    (anyB j (acE t s f k) = true → (clA t s f (usK t k j)).getLast? = some (k : Int)) ∧
    (anyB j (acE t s f k) = false → clA t s f (usK t k j) = clA t s f (usN t k)) ∧ (∀ x ∈ clA t s f (usK t k j), x < (k : Int) + 1)
  | 0 => ⟨by rw [usK_zero, base]; simp [anyB_zero], fun h => by simp [anyB_zero] at h, fun _ => by rw [usK_zero], fun x hx => by rw [usK_zero] at hx; have := lo x hx; omega⟩
  | j + 1 => by
    obtain ⟨h1, h2, h3, h4⟩ := cl_inv k base lo j
    have ea : anyB (j + 1) (acE t s f k) = (anyB j (acE t s f k) || acE t s f k j) := anyB_succ _ _
    rw [clA_step]
    cases e : acE t s f k j
    · simp only [e, Bool.or_false] at ea
      rw [ea]
      simpa using ⟨h1, h2, h3, h4⟩
    · simp only [e, Bool.or_true] at ea
      rw [ea]
      simp only [ite_true]
      refine ⟨?_, fun _ => by simp, (fun h => by cases h), fun x hx => ?_⟩
      · rw [compact_snoc, h1]
        cases e2 : anyB j (acE t s f k)
        · rw [h3 e2]
          have : (clA t s f (usN t k)).getLast? ≠ some (k : Int) := fun hh => by
            have := lo _ (List.mem_of_getLast? hh)
            omega
          simp [this]
        · rw [h2 e2]; simp
      · rcases List.mem_append.1 hx with h | h
        · exact h4 x h
        · simp at h; omega
theorem cl_row : ∀ k, Lib.compact (clA t s f (usN t k)) = achN t s f k ∧ ∀ x ∈ clA t s f (usN t k), x < (k : Int)
  | 0 => ⟨rfl, fun x hx => by simp [clA, usN] at hx⟩
  | k + 1 => by
    obtain ⟨h1, h2⟩ := cl_row k
    obtain ⟨a1, _, _, a4⟩ := cl_inv k h1 h2 (opr t.ops k).effs.length
    rw [usK_end] at a1 a4
    refine ⟨?_, fun x hx => by have := a4 x hx; push_cast; exact this⟩
    rw [a1]
    cases e : anyB (opr t.ops k).effs.length (acE t s f k)
    · rw [achN_no (by unfold acB; exact e)]; simp
    · rw [achN_yes (by unfold acB; exact e)]; simp
/-- What Compact makes of the list is the achievers. -/
theorem cl_ach : Lib.compact (clA t s f (us t)) = ach t s f := (cl_row t.ops.length).1
theorem clA_len (l : List Un) : (clA t s f l).length ≤ l.length := by unfold clA; rw [List.length_map]; exact List.length_filter_le _ _
theorem clT_yes {l : List Un} {k : Nat} (h : k < l.length) (e : unA t s f (un l k) = true) : clA t s f (l.take (k + 1)) = clA t s f (l.take k) ++ [((un l k).op : Int)] := by
  rw [List.take_succ_eq_append_getElem h, clA_app]
  congr 1
  have : l[k] = un l k := by unfold un; simp [List.getD, List.getElem?_eq_getElem h]
  unfold clA
  rw [this, List.filter_cons, e]; rfl
theorem clT_no {l : List Un} {k : Nat} (h : k < l.length) (e : unA t s f (un l k) = false) : clA t s f (l.take (k + 1)) = clA t s f (l.take k) := by
  rw [List.take_succ_eq_append_getElem h, clA_app]
  have : l[k] = un l k := by unfold un; simp [List.getD, List.getElem?_eq_getElem h]
  have e2 : clA t s f [l[k]] = [] := by unfold clA; rw [this, List.filter_cons, e]; rfl
  rw [e2, List.append_nil]
end

set_option maxRecDepth 100000 in
set_option maxHeartbeats 8000000 in
theorem achs_any (t : Tsk) (q : LiesF) (G : Nat) (s : List Int) (AS : Option Addr) (cs : Nat) (a : Int × Int) (w : World) (hF : FindAt w G t q) (hs : IntsAt w w.heap.size AS s) (hst : stB t.vars s = true) (hr : Right t) :
    Calls Try.prog 46 #[.pointer (some ⟨G, 0, none⟩), .slice AS s.length cs, .agg #[.int .i64 a.1, .int .i64 a.2]] w fun e w' => (∃ v, e = .returned v ∧ GotI2 w' w.heap.size v (ach t s a)) ∧ Below w.heap.size w w' := by
  have K1 := Lib.hid (fun wx (hb : Below w.heap.size w wx) => reached_any t q G s AS cs a wx (hF.up hb) (hs.up hb) hst hr)
  have HR := Lib.hid hr
  have hul := usN_len (t := t) (fun k hk => hr.ne k hk) t.ops.length (Nat.le_refl _)
  have hul2 : (us t).length ≤ 262144 := by have := hr.no; have h := hul; show (usN t t.ops.length).length ≤ _; omega
  clear hr hst hul
  obtain ⟨inf, hi, iz0, iz1, iz2⟩ := info_parts infoI8
  obtain ⟨av, ag, ac, au, cv, cg, cc, cu⟩ := q
  obtain ⟨q0, q1, q2, q3, q4, q5, q6, q7, q8⟩ := hF
  dsimp only at *
  have HU := Lib.hid q8
  clear q1 q2 q3 q5 q6 q7 q8
  go_enter Try.func46, Try.ntmps46
  go_wp2_with fail
  refine (K1.out _ (by repeat (first | exact Below.refl _ _ | refine below_dN ?_ _ | refine Below.drew ?_ | refine Below.alloc ?_ (by first | omega | (simp; done) | (simp; omega)) _ | refine Below.setCell ?_ (by first | omega | (simp; done) | (simp; omega)) _ | refine below_step (by assumption) (by first | omega | (simp; done) | (simp; omega)) ?_))).mono ?_
  rintro e w1 ⟨⟨g, rb, rfl, hm⟩, hb1⟩
  have hbw1 : Below w.heap.size w w1 := (show Below w.heap.size w (w.alloc (.cells #[.int .i64 a.1, .int .i64 a.2] 28)) by repeat (first | exact Below.refl _ _ | refine below_dN ?_ _ | refine Below.drew ?_ | refine Below.alloc ?_ (by first | omega | (simp; done) | (simp; omega)) _ | refine Below.setCell ?_ (by first | omega | (simp; done) | (simp; omega)) _ | refine below_step (by assumption) (by first | omega | (simp; done) | (simp; omega)) ?_)).trans (hb1.mono (by simp))
  have z1 := hbw1.size
  have c0 : w1.cell? ⟨w.heap.size, 0, none⟩ = some (.int .i64 a.1) := (hb1.cell (p := ⟨w.heap.size, 0, none⟩) (by simp)).trans (by simp)
  have c1 : w1.cell? ⟨w.heap.size, 1, none⟩ = some (.int .i64 a.2) := (hb1.cell (p := ⟨w.heap.size, 1, none⟩) (by simp)).trans (by simp)
  have z2 : w.heap.size < w1.heap.size := by have := hb1.size; simp at this; omega
  have d3 := (hbw1.cell (p := ⟨G, 3, none⟩) q0).trans q4
  have gG : G < w1.heap.size := by omega
  have HM := Lib.hid hm
  obtain ⟨L, hL⟩ : ∃ L, L = us t := ⟨_, rfl⟩
  rw [← hL] at HU d3 hul2
  have HL := Lib.hid hL
  clear hm hb1 hL q4
  go_wp2
  go_loopw [8, 20] (fun v i wr => ∃ (k : Nat), k ≤ L.length ∧ i = .int .i64 k ∧ Hid (wr.ownsRow w1.heap.size 3 1 v (clA t s a (L.take k)).length (ic (clA t s a (L.take k)))) ∧ Below w1.heap.size w1 wr) (fun _ i _ => L.length - (intOf i).toNat)
  case atStart => exact ⟨0, by omega, rfl, Lib.hid (World.ownsRow_nil _ _ _ _), Below.refl _ _⟩
  case round =>
    obtain ⟨k, hk, rfl, hown, hbel⟩ := hrel
    have hbz := hbel.size
    have hbwr : Below w.heap.size w wr := hbw1.trans (hbel.mono z1)
    by_cases hlt : k < L.length
    · obtain ⟨b1, eU, hb1, hc1⟩ := HU.out (by omega)
      subst eU
      obtain ⟨S, c, f0, f1, f2, f3, f4⟩ := hc1 k hlt
      have hmem : un L k ∈ us t := by rw [← HL.out]; exact un_mem hlt
      have hu := un_right HR.out hmem
      have d0 := (hbwr.cell (p := ⟨b1, k * 4, none⟩) hb1).trans f0
      have d1 := (hbwr.cell (p := ⟨b1, k * 4 + 1, none⟩) hb1).trans f1
      have d2 := (hbwr.cell (p := ⟨b1, k * 4 + 2, none⟩) hb1).trans f3
      have d4 := (hbwr.cell (p := ⟨b1, k * 4 + 3, none⟩) hb1).trans f4
      have g1 : b1 < wr.heap.size := by have := hbwr.size; omega
      have e0 := (hbel.cell (p := ⟨w.heap.size, 0, none⟩) (by show w.heap.size < _; omega)).trans c0
      have e1 := (hbel.cell (p := ⟨w.heap.size, 1, none⟩) (by show w.heap.size < _; omega)).trans c1
      have ge : w.heap.size < wr.heap.size := by omega
      have lneed := hu.len
      have lcl : (clA t s a (L.take k)).length ≤ 262144 := by have h1 := clA_len (t := t) (s := s) (f := a) (L.take k); have h2 := List.length_take_le k L; omega
      have k0 : (0 : Int) ≤ (k : Int) := by omega
      have k1 : (k : Int) < (L.length : Int) := by omega
      have KH := Lib.hid (fun wx (hb : Below wr.heap.size wr wx) => has_any t (un L k).needs (rcB t s a) (some ⟨g, 0, none⟩) S t.vars.length c g rb wx (fun _ => rfl) ((HM.out.up hbel).up hb) ((f2.up hbwr).up hb) hu.rng)
      have Hyes := Lib.hid (fun h => clT_yes (t := t) (s := s) (f := a) hlt h)
      have Hno := Lib.hid (fun h => clT_no (t := t) (s := s) (f := a) hlt h)
      clear hc1 f0 f1 f2 f3 f4 hmem hu
      by_cases ee : (un L k).var = a.1 ∧ (un L k).val = a.2
      · have heql : ∀ w, (binOp .eql 28 (.agg #[.int .i64 (un L k).var, .int .i64 (un L k).val]) (.agg #[.int .i64 a.1, .int .i64 a.2])).run Try.prog w = .ok (.bool true) w := by intro w; simp [go_sem, ee.1, ee.2]
        have hpair : ((un L k).var, (un L k).val) = a := by rw [ee.1, ee.2]
        cases e2 : hsM (un L k).needs (rcB t s a)
        · have Hs := Lib.hid (Hno.out (by unfold unA; rw [e2]; simp))
          rw [e2] at KH
          clear Hyes Hno ee hpair e2
          go_wp2_with fail
          refine (KH.out _ (by repeat (first | exact Below.refl _ _ | refine below_dN ?_ _ | refine Below.drew ?_ | refine Below.alloc ?_ (by first | omega | (simp; done) | (simp; omega)) _ | refine Below.setCell ?_ (by first | omega | (simp; done) | (simp; omega)) _ | refine below_step (by assumption) (by first | omega | (simp; done) | (simp; omega)) ?_))).mono ?_
          rintro e w3 ⟨rfl, hb3⟩
          have hb4 := (show Below wr.heap.size wr (wr.alloc (.cells #[.int .i64 ((un L k).op : Int), .slice S (un L k).needs.length c, .int .i64 (un L k).var, .int .i64 (un L k).val] 80)) by repeat (first | exact Below.refl _ _ | refine below_dN ?_ _ | refine Below.drew ?_ | refine Below.alloc ?_ (by first | omega | (simp; done) | (simp; omega)) _ | refine Below.setCell ?_ (by first | omega | (simp; done) | (simp; omega)) _ | refine below_step (by assumption) (by first | omega | (simp; done) | (simp; omega)) ?_)).trans (hb3.mono (by simp))
          go_wp2
          go_roundw
          case rel => exact ⟨k + 1, by omega, by go_num, Lib.hid (by rw [Hs.out]; exact own_below hown.out hb4), hbel.trans (hb4.mono hbz)⟩
          case measure => simp [intOf]; omega
        · have Hs := Lib.hid (Hyes.out (by unfold unA; rw [e2, hpair]; simp))
          rw [e2] at KH
          clear Hyes Hno ee hpair e2
          go_wp2_with fail
          refine (KH.out _ (by repeat (first | exact Below.refl _ _ | refine below_dN ?_ _ | refine Below.drew ?_ | refine Below.alloc ?_ (by first | omega | (simp; done) | (simp; omega)) _ | refine Below.setCell ?_ (by first | omega | (simp; done) | (simp; omega)) _ | refine below_step (by assumption) (by first | omega | (simp; done) | (simp; omega)) ?_))).mono ?_
          rintro e w3 ⟨rfl, hb3⟩
          have hb4 := (show Below wr.heap.size wr (wr.alloc (.cells #[.int .i64 ((un L k).op : Int), .slice S (un L k).needs.length c, .int .i64 (un L k).var, .int .i64 (un L k).val] 80)) by repeat (first | exact Below.refl _ _ | refine below_dN ?_ _ | refine Below.drew ?_ | refine Below.alloc ?_ (by first | omega | (simp; done) | (simp; omega)) _ | refine Below.setCell ?_ (by first | omega | (simp; done) | (simp; omega)) _ | refine below_step (by assumption) (by first | omega | (simp; done) | (simp; omega)) ?_)).trans (hb3.mono (by simp))
          have hb14 := hbel.trans (hb4.mono hbz)
          have h0 : w3.cell? ⟨wr.heap.size, 0, none⟩ = some (.int .i64 ((un L k).op : Int)) := (hb3.cell (p := ⟨wr.heap.size, 0, none⟩) (by simp)).trans (by simp)
          have z3 : wr.heap.size < w3.heap.size := by have := hb3.size; simp at this; omega
          have Ho3 := Lib.hid (own_below hown.out hb4)
          have z14 := hb14.size
          clear hb3
          go_wp2_with (at_builtin; refine wpList_push rfl _ _ 22 rfl w1.heap.size 3 inf (.int .i64 0) 1 8 undI8 hi iz0 iz1 iz2 rfl (by decide) (by decide) u8 (clA t s a (L.take k)).length (ic (clA t s a (L.take k))) rfl (Ho3.out.alloc _) w3.heap.size 3 [.int .i64 ((un L k).op : Int)] rfl rfl (heap_alloc_new _ _) (one_one rfl) (by omega) (by first | omega | (simp; omega)) (B := w1.heap.size) (W := w1) (hb14.alloc z14 _) (Nat.le_refl _) ?_; intro v' w8 hown' hgrow hat hbw8; have Hown := Lib.hid hown'; clear hown' hgrow hat)
          go_roundw
          case rel => exact ⟨k + 1, by omega, by go_num, Lib.hid (by rw [Hs.out, List.length_append, ← ic_push]; exact Hown.out), hbw8⟩
          case measure => simp [intOf]; omega
      · have heql : ∀ w, (binOp .eql 28 (.agg #[.int .i64 (un L k).var, .int .i64 (un L k).val]) (.agg #[.int .i64 a.1, .int .i64 a.2])).run Try.prog w = .ok (.bool false) w := by intro w; simp [go_sem]; omega
        have Hs := Lib.hid (Hno.out (by unfold unA; rw [decide_eq_false (fun e => ee ⟨congrArg Prod.fst e, congrArg Prod.snd e⟩)]; rfl))
        clear Hyes Hno ee KH
        go_wp2
        go_roundw
        case rel => exact ⟨k + 1, by omega, by go_num, Lib.hid (by rw [Hs.out]; exact hown.out.alloc _), hbel.alloc hbz _⟩
        case measure => simp [intOf]; omega
    · obtain rfl : k = L.length := by omega
      have hx : clA t s a (L.take L.length) = clA t s a (us t) := by rw [List.take_length, HL.out]
      have Hown := Lib.hid (show wr.ownsRow w1.heap.size 3 1 u8 (clA t s a (us t)).length (ic (clA t s a (us t))) by rw [← hx]; exact hown.out)
      have Hlen := Lib.hid (show (clA t s a (us t)).length ≤ 1000000 by have h1 := clA_len (t := t) (s := s) (f := a) (us t); rw [HL.out] at hul2; omega)
      clear hown hx
      go_wp2_with fail
      refine (compact_any _ _ w1.heap.size _ Hown.out Hlen.out).mono ?_
      rintro e w3 ⟨⟨v3, rfl, hg3⟩, hb3⟩
      rw [cl_ach] at hg3
      have Hg3 := Lib.hid hg3
      clear hg3
      go_wp2
      go_ret
      exact ⟨⟨_, rfl, Hg3.out.mono z1⟩, hbwr.trans (hb3.mono z1)⟩

end Go.Proofs.Ythhfckjddknmeaa

/- Texts laid together: RfC, RfD, AppX, RfE. -/
import Derived.Test.YtaampjhdgeoicaaGreatMfA
import Derived.Test.YtaampjhdgeoicaaGreatRfB
import Derived.Test.YtaampjhdgeoicaaGreatSxUl
import Derived.Test.YtaampjhdgeoicaaGreatMfC
namespace Go.Proofs.YtaampjhdgeoicaaGreat
set_option linter.unusedSimpArgs false
set_option linter.unusedVariables false
section
open Go Go.RowKit
set_option linter.unusedVariables false

theorem rz_any (w : World) : Calls Tryz.prog 84 #[] w fun e w' => e = .returned (.agg #[.int .i64 0, .int .i64 1]) ∧ Below w.heap.size w w' := by
 go_enter Tryz.func84, Tryz.ntmps84
 go_wp2
 exact bodyPost_ret (v := .agg #[.int .i64 0, .int .i64 1]) (by simp [results, Tryz.results84, go_sem]) rfl ⟨rfl, by exact bel⟩
theorem one_any (w : World) : Calls Tryz.prog 105 #[] w fun e w' => e = .returned (.agg #[.int .i64 1, .int .i64 1]) ∧ Below w.heap.size w w' := by
 go_enter Tryz.func105, Tryz.ntmps105
 go_wp2
 exact bodyPost_ret (v := .agg #[.int .i64 1, .int .i64 1]) (by simp [results, Tryz.results105, go_sem]) rfl ⟨rfl, by exact bel⟩

def RtRet (x y : Rat) (e : Ending) : Prop := (¬ (Rep x ∧ Rep y) ∧ e = .returned (.tuple #[.int .i64 0, .bool false])) ∨ (Rep x ∧ Rep y ∧ e = .returned (.tuple #[.int .i64 (if x < y then -1 else if y < x then 1 else 0), .bool true]))

set_option maxHeartbeats 2000000 in
theorem ratio_any (a p b q : Rat) (w : World) (ha : Rep a) (hp : Rep p) (hb : Rep b) (hq : Rep q) (p0 : p ≠ 0) (q0 : q ≠ 0) :
  Calls Tryz.prog 106 #[.agg #[.int .i64 a.num, .int .i64 a.den], .agg #[.int .i64 p.num, .int .i64 p.den], .agg #[.int .i64 b.num, .int .i64 b.den], .agg #[.int .i64 q.num, .int .i64 q.den]] w fun e w' => RtRet (a / p) (b / q) e ∧ Below w.heap.size w w' := by
 have k1 := fun W => rdiv_any a.num a.den p.num p.den W
 rw [divF_rep ha hp p0] at k1
 have k2 := fun W => rdiv_any b.num b.den q.num q.den W
 rw [divF_rep hb hq q0] at k2
 unfold RetFC at k1 k2
 obtain ⟨an, han⟩ : ∃ an, an = a.num := ⟨_, rfl⟩
 obtain ⟨ad, had⟩ : ∃ ad, ad = (a.den : Int) := ⟨_, rfl⟩
 obtain ⟨pn, hpn⟩ : ∃ pn, pn = p.num := ⟨_, rfl⟩
 obtain ⟨pd, hpd⟩ : ∃ pd, pd = (p.den : Int) := ⟨_, rfl⟩
 obtain ⟨bn, hbn⟩ : ∃ bn, bn = b.num := ⟨_, rfl⟩
 obtain ⟨bd, hbd⟩ : ∃ bd, bd = (b.den : Int) := ⟨_, rfl⟩
 obtain ⟨qn, hqn⟩ : ∃ qn, qn = q.num := ⟨_, rfl⟩
 obtain ⟨qd, hqd⟩ : ∃ qd, qd = (q.den : Int) := ⟨_, rfl⟩
 rw [← han, ← had, ← hpn, ← hpd] at k1
 rw [← hbn, ← hbd, ← hqn, ← hqd] at k2
 rw [← han, ← had, ← hpn, ← hpd, ← hbn, ← hbd, ← hqn, ← hqd]
 clear han had hpn hpd hbn hbd hqn hqd ha hp hb hq p0 q0
 obtain ⟨x, hx⟩ : ∃ x, x = a / p := ⟨_, rfl⟩
 obtain ⟨y, hy⟩ : ∃ y, y = b / q := ⟨_, rfl⟩
 rw [← hx] at k1 ⊢
 rw [← hy] at k2 ⊢
 clear hx hy
 by_cases h1 : Rep x
 case neg =>
  rw [not_rep h1] at k1
  have K1 := Lib.hid k1
  have HR := Lib.hid (show RtRet x y (.returned (.tuple #[.int .i64 0, .bool false])) from .inl ⟨fun h => h1 h.1, rfl⟩)
  clear k1 k2 h1
  go_enter Tryz.func106, Tryz.ntmps106
  go_wp2_with fail; refine (K1.out _).mono ?_; rintro e w1 ⟨rfl, hb1⟩; obtain ⟨hc1, hf1, hz1, hlt1, hle1⟩ := cellsIf hb1 (by (try simp); exact rfl); (try have := s00 w w1); (try have := s01 w w1); (try have := s02 w w1); (try have := s10 w w1); (try have := s11 w w1); (try have := s12 w w1); (try have := s20 w w1); (try have := s21 w w1); (try have := s22 w w1)
  go_wp2
  refine bodyPost_ret (v := .tuple #[.int .i64 0, .bool false]) (by simp [results, Tryz.results106, go_sem, ↓IntWalk.iteOmega, *]) rfl ⟨HR.out, ?_⟩
  exact bel
 case pos =>
  rw [rep_toF h1] at k1
  by_cases h2 : Rep y
  case neg =>
   rw [not_rep h2] at k2
   have HR := Lib.hid (show RtRet x y (.returned (.tuple #[.int .i64 0, .bool false])) from .inl ⟨fun h => h2 h.2, rfl⟩)
   obtain ⟨xn, hxn⟩ : ∃ xn, xn = x.num := ⟨_, rfl⟩
   obtain ⟨xd, hxd⟩ : ∃ xd, xd = (x.den : Int) := ⟨_, rfl⟩
   rw [← hxn, ← hxd] at k1
   have K1 := Lib.hid k1
   have K2 := Lib.hid k2
   clear k1 k2 h1 h2 hxn hxd
   go_enter Tryz.func106, Tryz.ntmps106
   go_wp2_with fail; refine (K1.out _).mono ?_; rintro e w1 ⟨rfl, hb1⟩; obtain ⟨hc1, hf1, hz1, hlt1, hle1⟩ := cellsIf hb1 (by (try simp); exact rfl); (try have := s00 w w1); (try have := s01 w w1); (try have := s02 w w1); (try have := s10 w w1); (try have := s11 w w1); (try have := s12 w w1); (try have := s20 w w1); (try have := s21 w w1); (try have := s22 w w1)
   go_wp2_with fail; refine (K2.out _).mono ?_; rintro e w2 ⟨rfl, hb2⟩; obtain ⟨hc2, hf2, hz2, hlt2, hle2⟩ := cellsIf hb2 (by (try simp); exact rfl); (try have := s00 w w2); (try have := s01 w w2); (try have := s02 w w2); (try have := s10 w w2); (try have := s11 w w2); (try have := s12 w w2); (try have := s20 w w2); (try have := s21 w w2); (try have := s22 w w2); (try have := s00 w1 w2); (try have := s01 w1 w2); (try have := s02 w1 w2); (try have := s10 w1 w2); (try have := s11 w1 w2); (try have := s12 w1 w2); (try have := s20 w1 w2); (try have := s21 w1 w2); (try have := s22 w1 w2)
   go_wp2
   refine bodyPost_ret (v := .tuple #[.int .i64 0, .bool false]) (by simp [results, Tryz.results106, go_sem, ↓IntWalk.iteOmega, *]) rfl ⟨HR.out, ?_⟩
   exact bel
  case pos =>
   rw [rep_toF h2] at k2
   have k3 := fun W => rcmp_any x.num x.den y.num y.den W
   rw [cmp_rat h1 h2] at k3
   have HR := Lib.hid (show RtRet x y (.returned (.tuple #[.int .i64 (if x < y then -1 else if y < x then 1 else 0), .bool true])) from .inr ⟨h1, h2, rfl⟩)
   obtain ⟨xn, hxn⟩ : ∃ xn, xn = x.num := ⟨_, rfl⟩
   obtain ⟨xd, hxd⟩ : ∃ xd, xd = (x.den : Int) := ⟨_, rfl⟩
   obtain ⟨yn, hyn⟩ : ∃ yn, yn = y.num := ⟨_, rfl⟩
   obtain ⟨yd, hyd⟩ : ∃ yd, yd = (y.den : Int) := ⟨_, rfl⟩
   rw [← hxn, ← hxd] at k1 k3
   rw [← hyn, ← hyd] at k2 k3
   obtain ⟨r, hr⟩ : ∃ r : Int, r = if x < y then -1 else if y < x then 1 else 0 := ⟨_, rfl⟩
   rw [← hr] at k3 HR
   have K1 := Lib.hid k1
   have K2 := Lib.hid k2
   have K3 := Lib.hid k3
   clear k1 k2 k3 h1 h2 hxn hxd hyn hyd hr
   go_enter Tryz.func106, Tryz.ntmps106
   go_wp2_with fail; refine (K1.out _).mono ?_; rintro e w1 ⟨rfl, hb1⟩; obtain ⟨hc1, hf1, hz1, hlt1, hle1⟩ := cellsIf hb1 (by (try simp); exact rfl); (try have := s00 w w1); (try have := s01 w w1); (try have := s02 w w1); (try have := s10 w w1); (try have := s11 w w1); (try have := s12 w w1); (try have := s20 w w1); (try have := s21 w w1); (try have := s22 w w1)
   go_wp2_with fail; refine (K2.out _).mono ?_; rintro e w2 ⟨rfl, hb2⟩; obtain ⟨hc2, hf2, hz2, hlt2, hle2⟩ := cellsIf hb2 (by (try simp); exact rfl); (try have := s00 w w2); (try have := s01 w w2); (try have := s02 w w2); (try have := s10 w w2); (try have := s11 w w2); (try have := s12 w w2); (try have := s20 w w2); (try have := s21 w w2); (try have := s22 w w2); (try have := s00 w1 w2); (try have := s01 w1 w2); (try have := s02 w1 w2); (try have := s10 w1 w2); (try have := s11 w1 w2); (try have := s12 w1 w2); (try have := s20 w1 w2); (try have := s21 w1 w2); (try have := s22 w1 w2)
   go_wp2_with fail; refine (K3.out _).mono ?_; rintro e w3 ⟨rfl, hb3⟩; obtain ⟨hc3, hf3, hz3, hlt3, hle3⟩ := cellsIf hb3 (by (try simp); exact rfl); (try have := s00 w w3); (try have := s01 w w3); (try have := s02 w w3); (try have := s10 w w3); (try have := s11 w w3); (try have := s12 w w3); (try have := s20 w w3); (try have := s21 w w3); (try have := s22 w w3); (try have := s00 w1 w3); (try have := s01 w1 w3); (try have := s02 w1 w3); (try have := s10 w1 w3); (try have := s11 w1 w3); (try have := s12 w1 w3); (try have := s20 w1 w3); (try have := s21 w1 w3); (try have := s22 w1 w3); (try have := s00 w2 w3); (try have := s01 w2 w3); (try have := s02 w2 w3); (try have := s10 w2 w3); (try have := s11 w2 w3); (try have := s12 w2 w3); (try have := s20 w2 w3); (try have := s21 w2 w3); (try have := s22 w2 w3)
   go_wp2
   refine bodyPost_ret (v := .tuple #[.int .i64 r, .bool true]) (by simp [results, Tryz.results106, go_sem, ↓IntWalk.iteOmega, *]) rfl ⟨HR.out, ?_⟩
   exact bel
end

section
open Go Go.RowKit
set_option linter.unusedVariables false

/-- The lists that Check looks at. -/
def allL (c b : List (Int × Int)) (R : List (List (Int × Int))) : List (List (Int × Int)) := (R ++ [b]) ++ [c]
theorem allL_len (c b : List (Int × Int)) (R : List (List (Int × Int))) : (allL c b R).length = R.length + 2 := by unfold allL; simp
theorem mr_allL {c b : List (Int × Int)} {R : List (List (Int × Int))} : (∀ i, i < R.length → mr (allL c b R) i = mr R i) ∧ mr (allL c b R) R.length = b ∧ mr (allL c b R) (R.length + 1) = c := by
 have hl : (R ++ [b]).length = R.length + 1 := by simp
 refine ⟨fun i hi => ?_, ?_, ?_⟩
 ·unfold allL; rw [mr_lt (by omega), mr_lt hi]
 ·unfold allL; rw [mr_lt (by omega), mr_eq]
 ·unfold allL
  have := mr_eq (R := R ++ [b]) (o := c)
  rw [hl] at this
  exact this
theorem any_allL (c b : List (Int × Int)) (R : List (List (Int × Int))) (x : Int) : (if !prL c || !prL b then 2 else if anyB R.length (fun i => !prL (mr R i)) then 2 else x) = if anyB (allL c b R).length (fun i => !prL (mr (allL c b R) i)) then 2 else x := by
 obtain ⟨h1, h2, h3⟩ := mr_allL (c := c) (b := b) (R := R)
 rw [allL_len, anyB_succ, anyB_succ, h2, h3]
 have h4 : anyB R.length (fun i => !prL (mr (allL c b R) i)) = anyB R.length (fun i => !prL (mr R i)) := by
  cases h : anyB R.length (fun i => !prL (mr R i))
  ·exact anyB_false.2 fun i hi => by rw [h1 i hi]; exact anyB_false.1 h i hi
  ·obtain ⟨i, hi, h5⟩ := anyB_true.1 h
   exact anyB_true.2 ⟨i, hi, by rw [h1 i hi]; exact h5⟩
 rw [h4]
 cases prL c <;> cases prL b <;> cases anyB R.length (fun i => !prL (mr R i)) <;> rfl
theorem mx_list2 {w : World} {A : Option Addr} {R : List (List (Int × Int))} {c : Nat} (h : MxAt w A R) (hA : A = none → c = 0) : ∃ xs, Sls w R xs ∧ ∀ wx, Below w.heap.size w wx → SrcAt wx A R.length c 1 xs := by
 obtain ⟨xs, hxs, hs⟩ := mx_list h hA
 exact ⟨xs, hxs, fun wx hb => ⟨hs.none, hs.len, fun ad e j u hj => (hb.cell (by obtain ⟨b0, o0, e0, hlt, _⟩ := h.2 (by have := (List.getElem?_eq_some_iff.1 hj).1; have := hxs.len; omega); rw [e0] at e; cases e; unfold Addr.add; split <;> exact hlt)).trans (hs.cells ad e j u hj), hs.one⟩⟩
theorem src_of2 {W : World} {H : Nat} {T : TypeId} {u v : Value} (hH : W.heap[H]? = some (.cells #[u, v] T (0, 0))) (h1 : u.oneCell' = true) (h2 : v.oneCell' = true) : SrcAt W (some ⟨H, 0, none⟩) 2 2 1 [u, v] where
 none := fun e => nomatch e
 len := rfl
 cells := fun ad e => by cases e; exact cells_of_block hH
 one := fun x hx => by
  rcases List.mem_cons.1 hx with rfl | hx
  ·exact h1
  ·rcases List.mem_cons.1 hx with rfl | hx
   ·exact h2
   ·cases hx

set_option maxRecDepth 100000 in
set_option maxHeartbeats 4000000 in
theorem rcheck_any (c : List (Int × Int)) (R : List (List (Int × Int))) (b : List (Int × Int)) (Ac AR Ab : Option Addr) (cc cR cb : Nat) (w : World) (hc : FactsAt w w.heap.size Ac c) (hR : MxAt w AR R) (hb : FactsAt w w.heap.size Ab b) (zc : Ac = none → cc = 0) (zR : AR = none → cR = 0) (zb : Ab = none → cb = 0) :
  Calls Tryz.prog 81 #[.slice Ac c.length cc, .slice AR R.length cR, .slice Ab b.length cb] w fun e w' => e = .returned (.int .i64 (chk37 c R b)) ∧ Below w.heap.size w w' := by
 have lc := hc.len
 have lR := hR.1
 have lb := hb.len
 have HR := Lib.hid hR
 have Hb := Lib.hid hb
 have Hc := Lib.hid hc
 obtain ⟨xs, hxs, hsrc⟩ := mx_list2 hR zR
 have HXS := Lib.hid (fun wx (h : Below w.heap.size w wx) => hxs.up h)
 have HSR := Lib.hid (fun wx (h : Below w.heap.size w wx) => hsrc wx h)
 have HZb := Lib.hid zb
 have HZc := Lib.hid zc
 obtain ⟨inr, hir, jz0, jz1, jz2⟩ := info_parts infoR7
 clear hc hR hb hxs hsrc zc zR zb
 obtain ⟨code, hcode⟩ : ∃ x, chk37 c R b = x := ⟨_, rfl⟩
 rw [hcode]
 unfold chk37 at hcode
 by_cases h1 : 24 < c.length
 ·rw [if_pos (.inl h1)] at hcode
  subst hcode
  have e1 : decide ((24 : Int) < (c.length : Int)) = true := decide_eq_true (by omega)
  go_enter Tryz.func81, Tryz.ntmps81
  go_wp2
  go_ret
  exact ⟨rfl, Below.refl _ _⟩
 have e1 : decide ((24 : Int) < (c.length : Int)) = false := decide_eq_false (by omega)
 by_cases h2 : 24 < R.length
 ·rw [if_pos (.inr (.inl h2))] at hcode
  subst hcode
  have e2 : decide ((24 : Int) < (R.length : Int)) = true := decide_eq_true (by omega)
  go_enter Tryz.func81, Tryz.ntmps81
  go_wp2
  go_ret
  exact ⟨rfl, Below.refl _ _⟩
 have e2 : decide ((24 : Int) < (R.length : Int)) = false := decide_eq_false (by omega)
 by_cases h3 : 24 < b.length
 ·rw [if_pos (.inr (.inr h3))] at hcode
  subst hcode
  have e3 : decide ((24 : Int) < (b.length : Int)) = true := decide_eq_true (by omega)
  go_enter Tryz.func81, Tryz.ntmps81
  go_wp2
  go_ret
  exact ⟨rfl, Below.refl _ _⟩
 have e3 : decide ((24 : Int) < (b.length : Int)) = false := decide_eq_false (by omega)
 rw [if_neg (by omega)] at hcode
 by_cases h4 : R.length ≠ b.length
 ·rw [if_pos h4] at hcode
  subst hcode
  have e4 : ((R.length : Int) != (b.length : Int)) = true := by simp; omega
  go_enter Tryz.func81, Tryz.ntmps81
  go_wp2
  go_ret
  exact ⟨rfl, Below.refl _ _⟩
 rw [if_neg h4] at hcode
 have e4 : ((R.length : Int) != (b.length : Int)) = false := by simp; omega
 have Hcode := Lib.hid hcode
 have H4 := Lib.hid h4
 have HS24 := Lib.hid (show c.length ≤ 24 ∧ R.length ≤ 24 ∧ b.length ≤ 24 by omega)
 clear hcode h4
 go_enter Tryz.func81, Tryz.ntmps81
 go_wp2
 clear e1 e2 e3 e4
 go_loopw [34] (fun i wr => ∃ k : Nat, k ≤ R.length ∧ i = .int .i64 k ∧ Hid (anyB k (fun i => decide ((mr R i).length ≠ c.length)) = false) ∧ Below w.heap.size w wr) (fun i _ => R.length - (intOf i).toNat)
 case atStart => exact ⟨0, by omega, rfl, rfl, Below.refl _ _⟩
 case round =>
  obtain ⟨k, hk, rfl, hB, hbel⟩ := hrel
  have hbz := hbel.size
  by_cases hlt : k < R.length
  ·obtain ⟨b1, o1, ea, hb1, hc1⟩ := HR.out.at_ hlt
   subst ea
   obtain ⟨S, cS, d1, _, hS⟩ := hc1 k hlt
   have d1' := (hbel.cell (p := ⟨b1, o1 + k, none⟩) hb1).trans d1
   have g1 : b1 < wr.heap.size := by omega
   have ls := hS.len
   have k0 : (0 : Int) ≤ (k : Int) := by omega
   have k1 : (k : Int) < (R.length : Int) := by omega
   have HS : Hid (anyB (k + 1) (fun i => decide ((mr R i).length ≠ c.length)) = (anyB k (fun i => decide ((mr R i).length ≠ c.length)) || decide ((mr R k).length ≠ c.length))) := anyB_succ _ _
   clear hc1 d1 hS
   by_cases hne : (mr R k).length = c.length
   ·have e5 : (((mr R k).length : Int) != (c.length : Int)) = false := by simp [hne]
    have Hs := Lib.hid (show anyB (k + 1) (fun i => decide ((mr R i).length ≠ c.length)) = false by rw [HS.out, hB.out, hne]; simp)
    clear hne
    go_wp2
    go_roundw
    case rel => exact ⟨k + 1, by omega, by go_num, Hs.out, hbel⟩
    case measure => simp [intOf]; omega
   ·have e5 : (((mr R k).length : Int) != (c.length : Int)) = true := by simp; omega
    have Hc11 := Lib.hid (show 11 = code by rw [← Hcode.out, if_pos (anyB_true.2 ⟨k, hlt, decide_eq_true hne⟩)])
    clear hne
    go_wp2
    go_ret
    exact ⟨by rw [← Hc11.out]; rfl, hbel⟩
  ·obtain rfl : R.length = k := by omega
   have Hcode2 := Lib.hid (show (if anyB (allL c b R).length (fun i => !prL (mr (allL c b R) i)) then 2 else if anyB b.length (fun i => decide (fv b i < 0)) then 1 else 0) = code by have h := Hcode.out; rw [if_neg (by rw [hB.out]; simp), any_allL] at h; exact h)
   obtain ⟨w7, hw7⟩ : ∃ w7 : World, w7 = wr := ⟨_, rfl⟩
   rw [← hw7] at hbel hbz ⊢
   clear hw7 hB Hcode
   have hsm := HS24.out
   have hxl := HXS.out _ hbel |>.len
   have hla := allL_len c b R
   obtain ⟨L, hL⟩ : ∃ L, L = allL c b R := ⟨_, rfl⟩
   rw [← hL] at hla Hcode2
   have HLe := Lib.hid hL
   have Hla := Lib.hid hla
   clear hL hla
   go_wp2_with (first | (at_builtin; refine wpList_append_src rfl _ _ 101 rfl w7.heap.size 37 inr (.slice none 0 0) 1 24 undR7 hir jz0 jz1 jz2 rfl (by decide) (.slice (some ⟨w7.heap.size, 0, none⟩) 0 0) 0 [] rfl (own_built (B := w7.heap.size) (e := 37) (s := 1) w7 #[] 0 (Nat.le_refl _) (by simp [maxLen]) rfl) AR R.length cR xs rfl (HSR.out _ (hbel.alloc hbz _)) (by unfold maxLen; omega) (by omega) (by simp) ?_; intro v8 w8 ho8 hg8 hat8; simp only [Nat.zero_add, List.nil_append] at ho8; have hb8 : Below w7.heap.size w7 w8 := Below.grown (show Below w7.heap.size w7 (w7.alloc (.cells #[] 37)) from (Below.refl _ _).alloc (Nat.le_refl _) _) hg8 (by simp) (fun g h => by cases h; exact Nat.le_refl _); have Ho8 := Lib.hid ho8; have z8 := hb8.size; clear ho8 hg8 hat8) | (at_builtin; refine wpList_append_src rfl _ _ 101 rfl w7.heap.size 37 inr (.slice none 0 0) 1 24 undR7 hir jz0 jz1 jz2 rfl (by decide) _ R.length xs rfl (Ho8.out.alloc _) (some ⟨w8.heap.size, 0, none⟩) 2 2 [.slice Ab b.length cb, .slice Ac c.length cc] rfl (src_of2 (heap_alloc_new _ _) rfl rfl) (by unfold maxLen; omega) (by omega) (by simp; omega) ?_; intro v9 w9 ho9 hg9 hat9; have hb9 : Below w7.heap.size w7 w9 := Below.grown (hb8.alloc z8 _) hg9 (by simp; omega) (fun g h => (Ho8.out.lt g h).1); obtain ⟨A9, c9, rfl⟩ := own_shapeL ho9 Hla.out.symm; have Ho9 := Lib.hid ho9; clear ho9 hg9 hat9))
   have hsl : Sls w9 (allL c b R) ((xs ++ [.slice Ab b.length cb]) ++ [.slice Ac c.length cc]) := ((HXS.out _ (hbel.trans (hb9.mono hbz))).push HZb.out (factsAt_up Hb.out (hbel.trans (hb9.mono hbz)))).push HZc.out (factsAt_up Hc.out (hbel.trans (hb9.mono hbz)))
   rw [← HLe.out] at hsl
   obtain ⟨A9', c9', hv9, hM9⟩ := mx_of_own (own_len (by rw [List.append_assoc]; exact Ho9.out) Hla.out.symm) hsl (by have := Hla.out; omega)
   injection hv9 with hv1 hv2 hv3
   subst hv1
   have B9 := hbel.trans (hb9.mono hbz)
   have z9 := B9.size
   have HM := Lib.hid hM9
   have HL26 := Lib.hid (show L.length ≤ 26 by have := Hla.out; omega)
   clear hM9 Ho9 hsl hbel hbz hb9 hb8 z8 Ho8 hxl hv2 hv3 hsm
   go_loopw [54] (fun i wr => ∃ k : Nat, k ≤ L.length ∧ i = .int .i64 k ∧ Hid (anyB k (fun i => !prL (mr L i)) = false) ∧ Below w.heap.size w wr ∧ Below w9.heap.size w9 wr) (fun i _ => L.length - (intOf i).toNat)
   case atStart => exact ⟨0, by omega, rfl, rfl, B9, Below.refl _ _⟩
   case round =>
    clear B9 z9
    obtain ⟨k, hk, rfl, hB, hbel, hbel9⟩ := hrel
    have hbz := hbel.size
    by_cases hlt : k < L.length
    ·obtain ⟨b1, o1, ea, hb1, hc1⟩ := HM.out.at_ hlt
     subst ea
     obtain ⟨S, cS, d1, _, hS⟩ := hc1 k hlt
     have d1' := (hbel9.cell (p := ⟨b1, o1 + k, none⟩) hb1).trans d1
     have g1 : b1 < wr.heap.size := by have := hbel9.size; omega
     have ls := hS.len
     have k0 : (0 : Int) ≤ (k : Int) := by omega
     have k1 : (k : Int) < (L.length : Int) := by omega
     have HS : Hid (anyB (k + 1) (fun i => !prL (mr L i)) = (anyB k (fun i => !prL (mr L i)) || !prL (mr L k))) := anyB_succ _ _
     obtain ⟨l, hl⟩ : ∃ l, l = mr L k := ⟨_, rfl⟩
     have HG : Hid (prL l = !anyB l.length fun i => !prB (fv l i) (fx l i)) := rfl
     have Hlt := Lib.hid hlt
     rw [← hl] at d1' ls HS
     have HSl := Lib.hid (show FactsAt wr wr.heap.size S l by rw [hl]; exact factsAt_up hS hbel9)
     have Hl := Lib.hid hl
     obtain ⟨wt, hwt⟩ : ∃ wt : World, wt = wr := ⟨_, rfl⟩
     rw [← hwt] at d1' g1 HSl hbel hbel9 hbz ⊢
     have z8 := hbel9.size
     clear hwt hc1 d1 hS hb1 hl
     go_wp2
     clear d1' g1 k0 k1
     go_loopw [60] (fun i wr => ∃ j : Nat, j ≤ l.length ∧ i = .int .i64 j ∧ Hid ((anyB j fun i => !prB (fv l i) (fx l i)) = false) ∧ Below wt.heap.size wt wr) (fun i _ => l.length - (intOf i).toNat)
     case atStart => exact ⟨0, by omega, rfl, rfl, Below.refl _ _⟩
     case round =>
      obtain ⟨j, hj, rfl, hBj, hbt⟩ := hrel
      have hbtz := hbt.size
      have hbw := hbel.trans (hbt.mono hbz)
      have hbw9 := hbel9.trans (hbt.mono z8)
      by_cases hltj : j < l.length
      ·obtain ⟨b2, o2, eb, hb2, hc2⟩ := HSl.out.at_ hltj
       subst eb
       have f1 := (hbt.cell (p := ⟨b2, o2 + j * 2, none⟩) hb2).trans (hc2 j hltj).1
       have f2 := (hbt.cell (p := ⟨b2, o2 + j * 2 + 1, none⟩) hb2).trans (hc2 j hltj).2
       have g2 : b2 < wr.heap.size := by omega
       have j0 : (0 : Int) ≤ (j : Int) := by omega
       have j1 : (j : Int) < (l.length : Int) := by omega
       have HSj : Hid ((anyB (j + 1) fun i => !prB (fv l i) (fx l i)) = ((anyB j fun i => !prB (fv l i) (fx l i)) || !prB (fv l j) (fx l j))) := anyB_succ _ _
       have KP := Lib.hid (fun wx => rproper_any (fv l j) (fx l j) wx)
       have hba := hbw.alloc hbw.size (.cells #[.int .i64 (fv l j), .int .i64 (fx l j)] 45)
       have hbs := hbw.size
       clear hc2
       cases e2 : prB (fv l j) (fx l j)
       ·have Hf := Lib.hid (show prL l = false by rw [HG.out, anyB_true.2 ⟨j, hltj, by rw [e2]; rfl⟩]; rfl)
        have Hc2 := Lib.hid (show 2 = code by rw [← Hcode2.out, if_pos (anyB_true.2 ⟨k, Hlt.out, by rw [← Hl.out, Hf.out]; rfl⟩)])
        rw [e2] at KP
        go_wp2_with fail
        refine (KP.out _).mono ?_
        rintro e w3 ⟨rfl, hb3⟩
        go_wp2
        go_ret
        exact ⟨by rw [← Hc2.out]; rfl, hba.trans (hb3.mono (by simp; omega))⟩
       ·rw [e2] at KP
        go_wp2_with fail
        refine (KP.out _).mono ?_
        rintro e w3 ⟨rfl, hb3⟩
        go_wp2
        go_roundw
        case rel => exact ⟨j + 1, by omega, by go_num, by rw [HSj.out, hBj.out, e2]; rfl, (hbt.alloc hbtz _).trans (hb3.mono (by simp; omega))⟩
        case measure => simp [intOf]; omega
      ·obtain rfl : j = l.length := by omega
       have h26 := HL26.out
       have h27 := Hlt.out
       have Ht := Lib.hid (show anyB (k + 1) (fun i => !prL (mr L i)) = false by rw [HS.out, hB.out, HG.out, hBj.out]; rfl)
       go_wp2
       go_roundw
       case rel => exact ⟨k + 1, by omega, by go_num, Ht, hbw, hbw9⟩
       case measure => simp [intOf]; omega
    ·obtain rfl : L.length = k := by omega
     have Hcode4 := Lib.hid (show (if anyB b.length (fun i => decide (fv b i < 0)) then 1 else 0) = code by have h := Hcode2.out; rw [if_neg (by rw [hB.out]; simp)] at h; exact h)
     go_wp2
     go_loopw [71] (fun i wr => ∃ k : Nat, k ≤ b.length ∧ i = .int .i64 k ∧ Hid (anyB k (fun i => decide (fv b i < 0)) = false) ∧ Below w.heap.size w wr) (fun i _ => b.length - (intOf i).toNat)
     case atStart => exact ⟨0, by omega, rfl, rfl, hbel⟩
     case round =>
      obtain ⟨k, hk, rfl, hB3, hbel⟩ := hrel
      have hbz := hbel.size
      by_cases hlt : k < b.length
      ·obtain ⟨b1, o1, ea, hb1, hc1⟩ := Hb.out.at_ hlt
       subst ea
       have d1 := (hbel.cell (p := ⟨b1, o1 + k * 2, none⟩) hb1).trans (hc1 k hlt).1
       have d2 := (hbel.cell (p := ⟨b1, o1 + k * 2 + 1, none⟩) hb1).trans (hc1 k hlt).2
       have g1 : b1 < wr.heap.size := by omega
       have k0 : (0 : Int) ≤ (k : Int) := by omega
       have k1 : (k : Int) < (b.length : Int) := by omega
       have HS : Hid (anyB (k + 1) (fun i => decide (fv b i < 0)) = (anyB k (fun i => decide (fv b i < 0)) || decide (fv b k < 0))) := anyB_succ _ _
       clear hc1
       by_cases hn : fv b k < 0
       ·have e5 : decide (fv b k < 0) = true := decide_eq_true hn
        have Hc2 := Lib.hid (show 1 = code by rw [← Hcode4.out, if_pos (anyB_true.2 ⟨k, hlt, e5⟩)])
        go_wp2
        go_ret
        exact ⟨by rw [← Hc2.out]; rfl, hbel.alloc hbz _⟩
       ·have e5 : decide (fv b k < 0) = false := decide_eq_false hn
        have Hs := Lib.hid (show anyB (k + 1) (fun i => decide (fv b i < 0)) = false by rw [HS.out, hB3.out, e5]; rfl)
        go_wp2
        go_roundw
        case rel => exact ⟨k + 1, by omega, by go_num, Hs.out, hbel.alloc hbz _⟩
        case measure => simp [intOf]; omega
      ·obtain rfl : b.length = k := by omega
       have Hc0 := Lib.hid (show 0 = code by rw [← Hcode4.out, if_neg (by rw [hB3.out]; simp)])
       go_wp2
       go_ret
       exact ⟨by rw [← Hc0.out]; rfl, hbel⟩
end

section
open Go.RowKit
set_option linter.unusedVariables false

section
variable {P : Program} {w : World}
theorem append_types (t tx ty e : TypeId) (i : TypeInfo) (ht : P.underlying t = some (.slice e)) (hx : P.underlying tx = some (.slice e)) (hi : P.info? e = some i) (b : Option Addr) (n c : Nat) (x : Value) : (Builtin.append_ #[t, tx] ty #[.slice b n c, x]).run P w = (Builtin.append_ #[t, t] ty #[.slice b n c, x]).run P w := by
 simp [Builtin.append_, run_underlying ht, run_underlying hx, sizeOf, typeInfo, hi]
theorem append_types_own (t tx ty e : TypeId) (i : TypeInfo) (ht : P.underlying t = some (.slice e)) (hx : P.underlying tx = some (.slice e)) (hi : P.info? e = some i) {base size n : Nat} {v : Value} {xs : List Value} (hown : w.ownsRow base e size v n xs) (x : Value) : (Builtin.append_ #[t, tx] ty #[v, x]).run P w = (Builtin.append_ #[t, t] ty #[v, x]).run P w := by
 rcases hown.2 with ⟨rfl, _⟩ | ⟨g, cap, cur, rfl, _⟩ <;> exact append_types t tx ty e i ht hx hi _ _ _ x
theorem wp_append_srx {o : Oper} {a : Act} {K : Act → World → Prop} {Q : Exit → Act → World → Prop} (s x : Operand) (t tx : TypeId)
  (ho : o.op = .call { callee := .builtin .append, args := #[s, x], argTypes := #[t, tx] })
  (base : Nat) (e : TypeId) (i : TypeInfo) (z : Value) (size bytes : Nat) (ht : P.underlying t = some (.slice e)) (htx : P.underlying tx = some (.slice e)) (hi : P.info? e = some i) (hz : i.zero = some z)
  (hsize : i.size = size) (hby : i.bytes = bytes) (hzs : z.cells.size = size) (hsz : 0 < size)
  (v : Value) (n : Nat) (xs : List Value) (hs : a.eval s = v) (hown : w.ownsRow base e size v n xs)
  (A : Option Addr) (m c : Nat) (news : List Value) (hx : a.eval x = .slice A m c) (hsrc : SrcAt w A m c size news)
  (h63 : n + m ≤ maxLen) (hbytes : (n + m) * bytes ≤ 140737488355328) (hbase : base ≤ w.heap.size)
  (h : ∀ v' w', w'.ownsRow base e size v' (n + m) (xs ++ news) → w.grownBy w' v.ownBlock → (v'.ownBlock = v.ownBlock ∨ v'.ownBlock = some w.heap.size) → K (a.put o.dst v') w') : o.wp P a w K Q := by
 cases A with
 | none =>
  obtain ⟨rfl, rfl⟩ := hsrc.none rfl
  have hn : news = [] := List.length_eq_zero_iff.1 (by rw [hsrc.len]; simp)
  subst hn
  have hr := run_append_owned_none (P := P) (w := w) base t o.type e i size ht hi v n xs hown
  rw [← append_types_own t tx o.type e i ht htx hi hown] at hr
  unfold Oper.wp execOp
  simp only [ho, resolve, invoke, builtin, Sem.run_bind, Sem.run_pure, Result.andThen_ok, List.map_toArray, List.map_cons, List.map_nil, hs, hx, hr]
  exact h v w (by simpa using hown) (grown_refl _) (.inl rfl)
 | some ad =>
  obtain ⟨v', w', hr, h2, h3, _, h5⟩ := run_append_own_at (P := P) w base t o.type e i z size bytes ht hi hz hsize hby hzs hsz v n xs hown ad m c news hsrc.len (hsrc.cells ad rfl) hsrc.one h63 hbytes hbase
  rw [← append_types_own t tx o.type e i ht htx hi hown] at hr
  unfold Oper.wp execOp
  simp only [ho, resolve, invoke, builtin, Sem.run_bind, Sem.run_pure, Result.andThen_ok, List.map_toArray, List.map_cons, List.map_nil, hs, hx, hr]
  exact h v' w' h2 h3 h5

theorem wpList_append_srx {ops : Array Oper} {rest : List Oper} {o : Oper} {a : Act} {Q : Exit → Act → World → Prop} (hgd : o.guard = .none) (s x : Operand) (t tx : TypeId)
  (ho : o.op = .call { callee := .builtin .append, args := #[s, x], argTypes := #[t, tx] })
  (base : Nat) (e : TypeId) (i : TypeInfo) (z : Value) (size bytes : Nat) (ht : P.underlying t = some (.slice e)) (htx : P.underlying tx = some (.slice e)) (hi : P.info? e = some i) (hz : i.zero = some z)
  (hsize : i.size = size) (hby : i.bytes = bytes) (hzs : z.cells.size = size) (hsz : 0 < size)
  (v : Value) (n : Nat) (xs : List Value) (hs : a.eval s = v) (hown : w.ownsRow base e size v n xs)
  (A : Option Addr) (m c : Nat) (news : List Value) (hx : a.eval x = .slice A m c) (hsrc : SrcAt w A m c size news)
  (h63 : n + m ≤ maxLen) (hbytes : (n + m) * bytes ≤ 140737488355328) (hbase : base ≤ w.heap.size)
  (h : ∀ v' w', w'.ownsRow base e size v' (n + m) (xs ++ news) → w.grownBy w' v.ownBlock → (v'.ownBlock = v.ownBlock ∨ v'.ownBlock = some w.heap.size) → wpList P ops Q rest (a.put o.dst v') w') :
  wpList P ops Q (o :: rest) a w :=
 wpList_plain hgd fun _ hK => wp_append_srx s x t tx ho base e i z size bytes ht htx hi hz hsize hby hzs hsz v n xs hs hown A m c news hx hsrc h63 hbytes hbase fun v' w' h2 h3 h4 => hK _ _ (h v' w' h2 h3 h4)
end
end

section
open Go Go.RowKit
set_option linter.unusedVariables false

theorem infoRw : (Tryz.prog.info? 150).map (fun i => (i.zero, i.size, i.bytes)) = some (some (.slice none 0 0), 1, 24) := by kernel_rfl
theorem undRws : Tryz.prog.underlying 149 = some (.slice 150) := by kernel_rfl
/-- The reference's tableau in a box. -/
def txf (v0 v1 v2 : Value) : Nat → Value
 | 0 => v0
 | 1 => v1
 | _ => v2
def Tx (w : World) (X : Nat) (v0 v1 v2 : Value) : Prop := rowGe w X 152 3 (txf v0 v1 v2)
section
variable {w w' : World} {X B s k : Nat} {e : TypeId} {v v0 v1 v2 : Value} {xs : List Value}
theorem Tx.new (w : World) (v0 v1 v2 : Value) : Tx (w.alloc (.cells #[v0, v1, v2] 152)) w.heap.size v0 v1 v2 :=
 ⟨_, heap_alloc_new _ _, by simp, fun i hi => by rcases i with _ | _ | _ | i <;> first | rfl | omega⟩
theorem Tx.c0 (h : Tx w X v0 v1 v2) : w.cell? ⟨X, 0, none⟩ = some v0 := rowGe.cell h (i := 0) (by decide)
theorem Tx.c1 (h : Tx w X v0 v1 v2) : w.cell? ⟨X, 1, none⟩ = some v1 := rowGe.cell h (i := 1) (by decide)
theorem Tx.c2 (h : Tx w X v0 v1 v2) : w.cell? ⟨X, 2, none⟩ = some v2 := rowGe.cell h (i := 2) (by decide)
theorem Tx.fz (h : Tx w X v0 v1 v2) (i : Nat) : w.frozen? ⟨X, i, none⟩ = false := rowGe.frozen h i
theorem Tx.lt (h : Tx w X v0 v1 v2) : X < w.heap.size := rowGe.lt h
theorem Tx.up (h : Tx w X v0 v1 v2) (hb : Below w.heap.size w w') : Tx w' X v0 v1 v2 := rowGe.up h hb
theorem Tx.grown (h : Tx w X v0 v1 v2) (ho : w.ownsRow B e s v k xs) (hg : w.grownBy w' v.ownBlock) (hne : 152 ≠ e) : Tx w' X v0 v1 v2 := rowGe.grown h hg (rowGe.ne h ho hne)
theorem Tx.set0 (h : Tx w X v0 v1 v2) (u : Value) : Tx (w.setCell ⟨X, 0, none⟩ u) X u v1 v2 := (rowGe.set h 0 u).congr fun i hi => by rcases i with _ | _ | _ | i <;> first | rfl | omega
theorem Tx.set1 (h : Tx w X v0 v1 v2) (u : Value) : Tx (w.setCell ⟨X, 1, none⟩ u) X v0 u v2 := (rowGe.set h 1 u).congr fun i hi => by rcases i with _ | _ | _ | i <;> first | rfl | omega
theorem Tx.set2 (h : Tx w X v0 v1 v2) (u : Value) : Tx (w.setCell ⟨X, 2, none⟩ u) X v0 v1 u := (rowGe.set h 2 u).congr fun i hi => by rcases i with _ | _ | _ | i <;> first | rfl | omega
theorem Tx.put (h : Tx w X v0 v1 v2) (ho : w.ownsRow B e s v k xs) (hne : 152 ≠ e) (i : Nat) (u : Value) : (w.setCell ⟨X, i, none⟩ u).ownsRow B e s v k xs := own_put ho (p := ⟨X, i, none⟩) (show some X ≠ v.ownBlock from rowGe.ne h ho hne) u
end
theorem rows_apart {w : World} {a b n m : Nat} {s t : TypeId} {f g : Nat → Value} (h1 : rowGe w a s n f) (h2 : rowGe w b t m g) (hne : s ≠ t) : a ≠ b := fun e => by
 obtain ⟨c, h3, _⟩ := h1
 obtain ⟨d, h4, _⟩ := h2
 rw [e, h4] at h3
 injection h3 with h3
 injection h3 with _ ht
 exact hne ht.symm
/-- The rows laid so far. -/
structure RwrAt (w : World) (B k N : Nat) (F : Nat → Nat → Rat) (v : Value) (rb cp : Nat → Nat) : Prop where
 own : w.ownsRow B 150 1 v k ((List.range k).map fun i => .slice (some ⟨rb i, 0, none⟩) N (cp i))
 rows : ∀ i, i < k → FrRow w (rb i) N (F i)
section
variable {w w' : World} {B k N g c X : Nat} {F : Nat → Nat → Rat} {v2 v u : Value} {rb cp : Nat → Nat}
theorem RwrAt.nil : RwrAt w B 0 N F (.slice none 0 0) rb cp := ⟨World.ownsRow_nil _ _ _ _, fun i hi => absurd hi (by omega)⟩
theorem RwrAt.up (h : RwrAt w B k N F v2 rb cp) (hb : Below w.heap.size w w') : RwrAt w' B k N F v2 rb cp := ⟨own_below h.own hb, fun i hi => (h.rows i hi).up hb⟩
theorem RwrAt.put {a0 a1 a2 : Value} (h : RwrAt w B k N F v2 rb cp) (hX : Tx w X a0 a1 a2) (i : Nat) (u : Value) : RwrAt (w.setCell ⟨X, i, none⟩ u) B k N F v2 rb cp :=
 ⟨hX.put h.own (by decide) i u, fun j hj => (h.rows j hj).of_block (Below.heap_setCell _ _ _ _ (rows_apart (h.rows j hj) hX (by decide)))⟩
theorem RwrAt.push (h : RwrAt w B k N F v2 rb cp) (hr : FrRow w g N (F k)) (ho : w'.ownsRow B 150 1 v (k + 1) (((List.range k).map fun i => .slice (some ⟨rb i, 0, none⟩) N (cp i)) ++ [.slice (some ⟨g, 0, none⟩) N c])) (hg : w.grownBy w' v2.ownBlock) : RwrAt w' B (k + 1) N F v (upn rb k g) (upn cp k c) where
 own := by
  have e : ((List.range (k + 1)).map fun i => Value.slice (some ⟨upn rb k g i, 0, none⟩) N (upn cp k c i)) = ((List.range k).map fun i => .slice (some ⟨rb i, 0, none⟩) N (cp i)) ++ [.slice (some ⟨g, 0, none⟩) N c] := by
   rw [List.range_succ, List.map_append]
   congr 1
   ·refine List.map_congr_left fun i hi => ?_
    have : i ≠ k := by have := List.mem_range.1 hi; omega
    unfold upn
    rw [if_neg this, if_neg this]
   ·simp [upn]
  rw [e]
  exact ho
 rows := fun i hi => by
  unfold upn
  by_cases e : i = k
  ·subst e
   rw [if_pos rfl]
   exact rowGe.grown hr hg (rowGe.ne hr h.own (by decide))
  ·rw [if_neg e]
   exact rowGe.grown (h.rows i (by omega)) hg (rowGe.ne (h.rows i (by omega)) h.own (by decide))
theorem RwrAt.kept {B2 s n : Nat} {e : TypeId} {xs : List Value} (h : RwrAt w B k N F v2 rb cp) (ho : w.ownsRow B2 e s v n xs) (hg : w.grownBy w' v.ownBlock) (h1 : 150 ≠ e) (h2 : 45 ≠ e) : RwrAt w' B k N F v2 rb cp :=
 ⟨h.own.kept hg (own_apt3 h.own ho h1), fun i hi => rowGe.grown (h.rows i hi) hg (rowGe.ne (h.rows i hi) ho h2)⟩
end
/-- The rows and the objective as the reference holds them. -/
def rowF (T : TB) (N i j : Nat) : Rat := if j < N then T.a i j else T.b i
def objF (T : TB) (N j : Nat) : Rat := if j < N then T.c j else -T.z
def rwsL (F : Nat → Nat → Rat) (m N1 : Nat) : List (List (Int × Int)) := (List.range m).map fun i => frq (F i) N1
def basL (f : Nat → Nat) (m : Nat) : List Int := (List.range m).map fun i => (f i : Int)
theorem rwsL_len (F : Nat → Nat → Rat) (m N1 : Nat) : (rwsL F m N1).length = m := by unfold rwsL; simp
theorem mr_rws {F : Nat → Nat → Rat} {m N1 i : Nat} (h : i < m) : mr (rwsL F m N1) i = frq (F i) N1 := by unfold mr rwsL; simp [List.getD, h]
theorem basL_len (f : Nat → Nat) (m : Nat) : (basL f m).length = m := by unfold basL; simp
theorem basL_at {f : Nat → Nat} {m i : Nat} (h : i < m) : nth (basL f m) i = f i := by unfold nth basL; simp [List.getD, h]
structure TabAt (w : World) (m N1 : Nat) (F : Nat → Nat → Rat) (g : Nat → Rat) (f : Nat → Nat) (A0 A1 A2 : Option Addr) (c2 : Nat) : Prop where
 rows : MxAt w A0 (rwsL F m N1)
 obj : FactsAt w w.heap.size A1 (frq g N1)
 bas : IntsAt w w.heap.size A2 (basL f m)
 nil : A2 = none → c2 = 0
/-- Rows in memory, with the types of their blocks. -/
def RowsT (w : World) (m N1 : Nat) (F : Nat → Nat → Rat) (A : Option Addr) : Prop := ∃ rb cp : Nat → Nat, (0 < m → ∃ b, A = some ⟨b, 0, none⟩ ∧ rowGe w b 150 m fun i => .slice (some ⟨rb i, 0, none⟩) N1 (cp i)) ∧ ∀ i, i < m → FrRow w (rb i) N1 (F i)
/-- A tableau in memory, with the types of its blocks. -/
structure TabT (w : World) (m N1 : Nat) (F : Nat → Nat → Rat) (g : Nat → Rat) (f : Nat → Nat) (A0 A1 A2 : Option Addr) (c2 : Nat) : Prop where
 rows : RowsT w m N1 F A0
 obj : ∃ q, A1 = some ⟨q, 0, none⟩ ∧ FrRow w q N1 g
 bas : 0 < m → ∃ b, A2 = some ⟨b, 0, none⟩ ∧ rowGe w b 3 m fun i => .int .i64 (f i : Int)
 nil : A2 = none → c2 = 0
def TabR (w : World) (T : TB) (m N : Nat) (v : Value) : Prop := ∃ A0 A1 A2 c0 c1 c2, v = .agg #[.slice A0 m c0, .slice A1 (N + 1) c1, .slice A2 m c2] ∧ TabT w m (N + 1) (rowF T N) (objF T N) T.B A0 A1 A2 c2
theorem RowsT.up {w w' : World} {m N1 : Nat} {F : Nat → Nat → Rat} {A : Option Addr} (h : RowsT w m N1 F A) (hb : Below w.heap.size w w') : RowsT w' m N1 F A := by
 obtain ⟨rb, cp, h1, h2⟩ := h
 refine ⟨rb, cp, fun h0 => ?_, fun i hi => (h2 i hi).up hb⟩
 obtain ⟨b, e, hr⟩ := h1 h0
 exact ⟨b, e, rowGe.up hr hb⟩
theorem TabT.up {w w' : World} {m N1 : Nat} {F : Nat → Nat → Rat} {g : Nat → Rat} {f : Nat → Nat} {A0 A1 A2 : Option Addr} {c2 : Nat} (h : TabT w m N1 F g f A0 A1 A2 c2) (hb : Below w.heap.size w w') : TabT w' m N1 F g f A0 A1 A2 c2 where
 rows := h.rows.up hb
 obj := by
  obtain ⟨q, e, hr⟩ := h.obj
  exact ⟨q, e, hr.up hb⟩
 bas := fun h0 => by
  obtain ⟨b, e, hr⟩ := h.bas h0
  exact ⟨b, e, rowGe.up hr hb⟩
 nil := h.nil
theorem RowsT.mx {w : World} {m N1 : Nat} {F : Nat → Nat → Rat} {A : Option Addr} (h : RowsT w m N1 F A) (hN : N1 ≤ 1000) (hm : m ≤ 1000) : MxAt w A (rwsL F m N1) := by
 obtain ⟨rb, cp, h1, h2⟩ := h
 refine ⟨by rw [rwsL_len]; omega, fun h0 => ?_⟩
 rw [rwsL_len] at h0
 obtain ⟨g, rfl, hr⟩ := h1 h0
 refine ⟨g, 0, rfl, hr.lt, fun i hi => ?_⟩
 rw [rwsL_len] at hi
 refine ⟨some ⟨rb i, 0, none⟩, cp i, ?_, (fun e => nomatch e), ?_⟩
 ·rw [Nat.zero_add, mr_rws hi, frq_len]
  exact hr.cell hi
 ·rw [mr_rws hi]
  exact fr_facts (h2 i hi) hN
theorem RwrAt.tt {w : World} {B k N : Nat} {F : Nat → Nat → Rat} {v : Value} {rb cp : Nat → Nat} (h : RwrAt w B k N F v rb cp) : ∃ A c, v = .slice A k c ∧ RowsT w k N F A := by
 obtain ⟨A, c, e, hg⟩ := rowGe_own h.own (fun i => .slice (some ⟨rb i, 0, none⟩) N (cp i)) fun i hi => by simp [hi]
 exact ⟨A, c, e, rb, cp, fun h0 => by obtain ⟨g, e, _, hr⟩ := hg h0; exact ⟨g, e, hr⟩, h.rows⟩
theorem intsAt_up {w w' : World} {A : Option Addr} {l : List Int} (h : IntsAt w w.heap.size A l) (hb : Below w.heap.size w w') : IntsAt w' w'.heap.size A l := h.keep (fun _ hp => hb.cell hp) hb.size
theorem TabAt.up {w w' : World} {m N1 : Nat} {F : Nat → Nat → Rat} {g : Nat → Rat} {f : Nat → Nat} {A0 A1 A2 : Option Addr} {c2 : Nat} (h : TabAt w m N1 F g f A0 A1 A2 c2) (hb : Below w.heap.size w w') : TabAt w' m N1 F g f A0 A1 A2 c2 := ⟨h.rows.up hb, factsAt_up h.obj hb, intsAt_up h.bas hb, h.nil⟩
theorem nums_last {l : List (Int × Int)} {N : Nat} {f : Nat → Rat} {x : Rat} {p q : Int} (h : NumsOf l N f) (hp : x.num = p) (hq : (x.den : Int) = q) : NumsOf (l ++ [(p, q)]) (N + 1) (fun j => if j < N then f j else x) := by
 obtain ⟨h1, h2⟩ := h
 refine ⟨by rw [List.length_append, h1]; rfl, fun j hj => ?_⟩
 dsimp only
 by_cases e : j < N
 ·rw [if_pos e]
  obtain ⟨h3, h4⟩ := h2 j e
  rw [h3, h4]
  unfold fv fx
  simp [List.getD, List.getElem?_append_left (show j < l.length by omega)]
 ·rw [if_neg e]
  obtain rfl : j = N := by omega
  rw [hp, hq]
  unfold fv fx
  simp [List.getD, List.getElem?_append_right (show l.length ≤ j by omega), h1]
theorem bas_own {w : World} {B : Nat} {v : Value} {n k : Nat} (h : w.ownsRow B 3 1 v (bsN n k).length (ic (bsN n k))) (hk : k ≤ 1000) : ∃ A c, v = .slice A k c ∧ (A = none → c = 0) ∧ IntsAt w w.heap.size A (basL (fun i => n + i) k) := by
 have e : bsN n k = basL (fun i => n + i) k := rfl
 obtain ⟨A, c, h1, h2, h3⟩ := own_ints2 h (by rw [bsN_len]; omega)
 rw [bsN_len] at h1
 exact ⟨A, c, h1, h2, h3⟩
theorem bas_row {w : World} {g m : Nat} {f : Nat → Nat} (h : rowGe w g 3 m (fun i => .int .i64 (f i : Int))) (hm : m ≤ 1000) : IntsAt w w.heap.size (some ⟨g, 0, none⟩) (basL f m) :=
 ⟨by rw [basL_len]; omega, fun _ => ⟨g, 0, rfl, h.lt, fun j hj => by
  rw [basL_len] at hj
  rw [Nat.zero_add, basL_at hj]
  exact h.cell hj⟩⟩
theorem TabT.at_ {w : World} {m N1 : Nat} {F : Nat → Nat → Rat} {g : Nat → Rat} {f : Nat → Nat} {A0 A1 A2 : Option Addr} {c2 : Nat} (h : TabT w m N1 F g f A0 A1 A2 c2) (hN : N1 ≤ 1000) (hm : m ≤ 1000) : TabAt w m N1 F g f A0 A1 A2 c2 where
 rows := h.rows.mx hN hm
 obj := by
  obtain ⟨q, rfl, hr⟩ := h.obj
  exact fr_facts hr hN
 bas := by
  by_cases h0 : 0 < m
  ·obtain ⟨b, rfl, hr⟩ := h.bas h0
   exact bas_row hr hm
  ·exact ⟨by rw [basL_len]; omega, fun h1 => by rw [basL_len] at h1; omega⟩
 nil := h.nil
theorem bas_own2 {w : World} {B : Nat} {v : Value} {n k : Nat} (h : w.ownsRow B 3 1 v (bsN n k).length (ic (bsN n k))) (hk : k ≤ 1000) : ∃ A c, v = .slice A k c ∧ (A = none → c = 0) ∧ (0 < k → ∃ g, A = some ⟨g, 0, none⟩ ∧ rowGe w g 3 k fun i => .int .i64 ((n + i : Nat) : Int)) := by
 obtain ⟨A, c, h1, h2, _⟩ := bas_own h hk
 rw [bsN_len] at h
 obtain ⟨A', c', h3, h4⟩ := rowGe_own h (fun i => .int .i64 ((n + i : Nat) : Int)) fun i hi => by
  unfold ic bsN
  simp [hi]
 refine ⟨A, c, h1, h2, fun h0 => ?_⟩
 rw [h1] at h3
 injection h3 with h5 _ _
 obtain ⟨g, e, _, hr⟩ := h4 h0
 exact ⟨g, h5.trans e, hr⟩
end

end Go.Proofs.YtaampjhdgeoicaaGreat

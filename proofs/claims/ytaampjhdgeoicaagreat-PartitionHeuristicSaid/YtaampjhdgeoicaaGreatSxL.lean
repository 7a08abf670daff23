/- simplex: leaving. -/
import Derived.Test.YtaampjhdgeoicaaGreatMfA
import Derived.Test.YtaampjhdgeoicaaGreatSxP
import Derived.Test.YtaampjhdgeoicaaGreatMfC
namespace Go.Proofs.YtaampjhdgeoicaaGreat
set_option linter.unusedSimpArgs false
set_option linter.unusedVariables false
open Go Go.RowKit
set_option linter.unusedVariables false

/-- The rows that come into question. -/
def cnd (T : TB) (k p : Nat) : List Nat := (List.range p).filter fun i => decide (0 < T.a i k)
def cnI (T : TB) (k p : Nat) : List Int := (cnd T k p).map fun (i : Nat) => (i : Int)
section
variable {T : TB} {k p : Nat}
theorem cnI_yes (h : 0 < T.a p k) : cnI T k (p + 1) = cnI T k p ++ [(p : Int)] := by unfold cnI cnd; rw [List.range_succ, List.filter_append, List.map_append]; simp [h]
theorem cnI_no (h : ¬ 0 < T.a p k) : cnI T k (p + 1) = cnI T k p := by unfold cnI cnd; rw [List.range_succ, List.filter_append]; simp [h]
theorem cnI_len : (cnI T k p).length = (cnd T k p).length := by unfold cnI; rw [List.length_map]
theorem cnd_len : (cnd T k p).length ≤ p := by unfold cnd; exact Nat.le_trans (List.length_filter_le _ _) (by simp)
theorem mem_cnd {i : Nat} : i ∈ cnd T k p ↔ i < p ∧ 0 < T.a i k := by unfold cnd; simp
theorem cnI_nth {i : Nat} (h : i < (cnd T k p).length) : nth (cnI T k p) i = ((cnd T k p)[i] : Int) := by unfold nth cnI; simp [List.getD, h]
theorem cnd_nodup : (cnd T k p).Nodup := List.Nodup.sublist List.filter_sublist List.nodup_range
end
/-- What leaving answers. -/
def LvP (m : Nat) (T : TB) (k : Nat) (v c : Int) : Prop :=
 (c = 0 ∧ v = -1 ∧ ∀ i, i < m → ¬ 0 < T.a i k) ∨ (∃ r : Nat, c = 0 ∧ v = r ∧ Lea m T k r ∧ RatOK m T k) ∨ (c = 5 ∧ ¬ RatOK m T k)
theorem own_ints2 {w : World} {B : Nat} {v : Value} {l : List Int} (h : w.ownsRow B 3 1 v l.length (ic l)) (hl : l.length ≤ 140737488355328) : ∃ A c, v = .slice A l.length c ∧ (A = none → c = 0) ∧ IntsAt w w.heap.size A l := by
 obtain ⟨A, c, h1, h2⟩ := own_ints h hl
 rcases h.2 with ⟨h3, h0⟩ | ⟨b, cap, cur, h3, _⟩
 ·exact ⟨none, 0, by rw [h3, h0], fun _ => rfl, hl, fun hn => absurd hn (by omega)⟩
 ·rw [h1] at h3
  injection h3 with e1 _ _
  exact ⟨A, c, h1, (fun e => by rw [e] at e1; cases e1), h2⟩
/-- The best of some rows. -/
def Bst (T : TB) (k : Nat) (l : List Nat) (r : Nat) : Prop := r ∈ l ∧ ∀ i ∈ l, T.b r / T.a r k < T.b i / T.a i k ∨ (T.b r / T.a r k = T.b i / T.a i k ∧ T.B r ≤ T.B i)
theorem cmp_rat {x y : Rat} (hx : Rep x) (hy : Rep y) : cmpF x.num x.den y.num y.den = if x < y then -1 else if y < x then 1 else 0 := by
 have h1 := cmpF_lt (rep_pr hx) (rep_pr hy)
 have h2 := cmpF_gt (rep_pr hx) (rep_pr hy)
 have e1 : x < y ↔ x.num * y.den < y.num * x.den := Rat.lt_iff x y
 have e2 : y < x ↔ y.num * x.den < x.num * y.den := Rat.lt_iff y x
 have h3 : cmpF x.num x.den y.num y.den = -1 ∨ cmpF x.num x.den y.num y.den = 0 ∨ cmpF x.num x.den y.num y.den = 1 := by
  unfold cmpF
  split
  ·exact .inl rfl
  ·split
   ·exact .inr (.inr rfl)
   ·exact .inr (.inl rfl)
 by_cases a : x < y
 ·rw [if_pos a]
  have := h1.2 (e1.1 a)
  omega
 ·rw [if_neg a]
  by_cases b : y < x
  ·rw [if_pos b]
   have := h2.2 (e2.1 b)
   omega
  ·rw [if_neg b]
   have n1 : ¬ cmpF x.num x.den y.num y.den < 0 := fun h => a (e1.2 (h1.1 h))
   have n2 : ¬ 0 < cmpF x.num x.den y.num y.den := fun h => b (e2.2 (h2.1 h))
   omega

set_option maxRecDepth 100000 in
set_option maxHeartbeats 8000000 in
theorem leaving_any (B X m n N : Nat) (L : TbL) (T : TB) (k : Nat) (w : World) (hG : TbG B X m n N L) (hT : TbM w X m n N L T) (hs : Sml m N T) (hk : k < N) :
  Calls Tryz.prog 99 #[.pointer (some ⟨X, 0, none⟩), .int .i64 k] w fun e w' => (∃ v c, e = .returned (.tuple #[.int .i64 v, errV c]) ∧ LvP m T k v c) ∧ Below w.heap.size w w' := by
 have hsm := hG.sm
 have c2 := hT.c2
 have cX := hT.lt
 have HT := Lib.hid hT
 have Hs := Lib.hid hs
 have HG := Lib.hid hG
 obtain ⟨inf, hi, iz0, iz1, iz2⟩ := info_parts infoIc
 have KP := Lib.hid (fun (x : Rat) wx => positive_any x.num x.den wx)
 have k0 : (0 : Int) ≤ (k : Int) := by omega
 have k1 : (k : Int) < (N : Int) := by omega
 clear hG hT hs
 go_enter Tryz.func99, Tryz.ntmps99
 go_wp2
 go_loopw [6, 21] (fun v i wr => ∃ p : Nat, p ≤ m ∧ i = .int .i64 p ∧ Hid (wr.ownsRow w.heap.size 3 1 v (cnI T k p).length (ic (cnI T k p))) ∧ Below w.heap.size w wr) (fun _ i _ => m - (intOf i).toNat)
 case atStart => exact ⟨0, by omega, rfl, Lib.hid (World.ownsRow_nil _ _ _ _), Below.refl _ _⟩
 case round =>
  obtain ⟨p, hp, rfl, hown, hbel⟩ := hrel
  have hbz := hbel.size
  have hTr := Lib.hid (HT.out.up hbel)
  by_cases hlt : p < m
  ·have hm0 : 0 < m := by omega
   have e2 := HG.out.e2 hm0
   rw [e2] at c2 ⊢
   have a2 := (hTr.out.top hm0).cell hlt
   have cg := (hTr.out.top hm0).lt
   have a3 := (hTr.out.rows p hlt).num hk
   have a4 := (hTr.out.rows p hlt).den hk
   have ci := (hTr.out.rows p hlt).lt
   have p0 : (0 : Int) ≤ (p : Int) := by omega
   have p1 : (p : Int) < (m : Int) := by omega
   obtain ⟨x, hx⟩ : ∃ x, T.a p k = x := ⟨_, rfl⟩
   rw [hx] at a3 a4
   have K1 := Lib.hid (KP.out x)
   have Hx := Lib.hid hx
   have hcl := cnd_len (T := T) (k := k) (p := p)
   have hcl2 := cnI_len (T := T) (k := k) (p := p)
   have Hcl := Lib.hid (show (cnI T k p).length ≤ 100 by omega)
   clear hx hcl hcl2
   by_cases hpos : 0 < x
   ·have e1 : decide (0 < x.num) = true := decide_eq_true (rep_pos.2 hpos)
    have HS := Lib.hid (cnI_yes (T := T) (k := k) (p := p) (Hx.out ▸ hpos))
    have K2 := Lib.hid (fun wx => e1 ▸ K1.out wx)
    clear hpos e1
    go_wp2_with fail
    refine (K2.out _).mono ?_
    rintro e w3 ⟨rfl, hb3⟩
    have hb13 := hbel.trans (hb3.mono hbz)
    have z13 := hb13.size
    have Ho3 := Lib.hid (own_below hown.out hb3)
    have l100 := Hcl.out
    clear hb3
    go_wp2_with (at_builtin; refine wpList_push rfl _ _ 22 rfl w.heap.size 3 inf (.int .i64 0) 1 8 undIc hi iz0 iz1 iz2 rfl (by decide) (by decide) _ (cnI T k p).length (ic (cnI T k p)) rfl (Ho3.out.alloc _) w3.heap.size 3 [.int .i64 (p : Int)] rfl rfl (heap_alloc_new _ _) (one_one rfl) (by omega) (by first | omega | (simp; omega)) (B := w.heap.size) (W := w) (hb13.alloc z13 _) (Nat.le_refl _) ?_; intro v' w8 hown' hgrow hat hbw8; have Hown := Lib.hid hown'; clear hown' hgrow hat)
    go_roundw
    case rel => exact ⟨p + 1, by omega, by go_num, Lib.hid (by rw [HS.out, List.length_append]; unfold ic; rw [List.map_append]; exact Hown.out), hbw8⟩
    case measure => simp [intOf]; omega
   ·have e1 : decide (0 < x.num) = false := decide_eq_false fun h => hpos (rep_pos.1 h)
    have HS := Lib.hid (cnI_no (T := T) (k := k) (p := p) (Hx.out ▸ hpos))
    have K2 := Lib.hid (fun wx => e1 ▸ K1.out wx)
    clear hpos e1
    go_wp2_with fail
    refine (K2.out _).mono ?_
    rintro e w3 ⟨rfl, hb3⟩
    go_wp2
    go_roundw
    case rel => exact ⟨p + 1, by omega, by go_num, Lib.hid (by rw [HS.out]; exact own_below hown.out hb3), hbel.trans (hb3.mono hbz)⟩
    case measure => simp [intOf]; omega
  ·obtain rfl : m = p := by omega
   have hcl := cnd_len (T := T) (k := k) (p := m)
   have hcl2 := cnI_len (T := T) (k := k) (p := m)
   obtain ⟨l, hl⟩ : ∃ l, cnd T k m = l := ⟨_, rfl⟩
   have Hl := Lib.hid hl
   rw [hl] at hcl hcl2
   obtain ⟨lI, hlI⟩ : ∃ lI, cnI T k m = lI := ⟨_, rfl⟩
   have HlI := Lib.hid hlI
   rw [hlI] at hown hcl2
   have HL2 := Lib.hid hcl2
   have hl100 : lI.length ≤ 100 := by omega
   clear hl hlI c2 hcl2
   by_cases hc : lI.length < 2
   ·have hcI : (lI.length : Int) < 2 := by omega
    have hLv : Hid (LvP m T k (nth (lI ++ [-1]) 0) 0) := Lib.hid (by
     rcases Nat.lt_or_ge lI.length 1 with h0 | h0
     ·have e0 : lI = [] := List.length_eq_zero_iff.1 (by omega)
      have := HL2.out
      refine .inl ⟨rfl, by rw [e0]; rfl, fun i hi hp => ?_⟩
      have : i ∈ cnd T k m := mem_cnd.2 ⟨hi, hp⟩
      rw [Hl.out, List.length_eq_zero_iff.1 (show l.length = 0 by omega)] at this
      cases this
     ·have h1 : (cnd T k m).length = 1 := by rw [Hl.out]; have := HL2.out; omega
      obtain ⟨r, hr⟩ := List.length_eq_one_iff.1 h1
      have hrm := mem_cnd.1 (show r ∈ cnd T k m by rw [hr]; simp)
      have hone : ∀ i, i < m → 0 < T.a i k → i = r := fun i hi hp => by
       have := mem_cnd.2 ⟨hi, hp⟩
       rw [hr] at this
       simpa using this
      refine .inr (.inl ⟨r, rfl, ?_, ⟨hrm.1, hrm.2, fun i hi hp => ?_⟩, fun i j hi hj hne h1 h2 => absurd ((hone i hi h1).trans (hone j hj h2).symm) hne⟩)
      ·have e1 : lI = [(r : Int)] := by rw [← HlI.out]; unfold cnI; rw [hr]; rfl
       rw [e1]; rfl
      ·rw [hone i hi hp]; exact .inr ⟨rfl, Nat.le_refl _⟩)
    obtain ⟨A0, c0', hv0⟩ := own_shape hown.out
    subst hv0
    go_wp2_with (at_builtin; refine wpList_push rfl _ _ 22 rfl w.heap.size 3 inf (.int .i64 0) 1 8 undIc hi iz0 iz1 iz2 rfl (by decide) (by decide) _ lI.length (ic lI) rfl (hown.out.alloc _) wr.heap.size 3 [.int .i64 (-1)] rfl rfl (heap_alloc_new _ _) (one_one rfl) (by omega) (by first | omega | (simp; omega)) (B := w.heap.size) (W := w) (hbel.alloc hbz _) (Nat.le_refl _) ?_; intro v' w8 hown' hgrow hat hbw8; obtain ⟨A, c, rfl, hA⟩ := rowGe_own hown' (fun i => .int .i64 (nth (lI ++ [-1]) i)) (fun i hi => by have h := ic_get (l := lI ++ [-1]) (k := i) (by simp; omega); unfold ic at h ⊢; rw [List.map_append] at h; exact h); obtain ⟨g, rfl, _, hg⟩ := hA (by omega); have c0 := hg.cell (i := 0) (by omega); have cg := hg.lt; clear hown' hgrow hat hA hg)
    refine bodyPost_ret (v := .tuple #[.int .i64 (nth (lI ++ [-1]) 0), .nilIface]) (by simp [results, Tryz.results99, go_sem]) rfl ⟨⟨_, 0, rfl, hLv.out⟩, hbw8⟩
   ·have hcI : ¬ (lI.length : Int) < 2 := by omega
    have hcD : decide ((lI.length : Int) < 2) = false := decide_eq_false hcI
    obtain ⟨Ai, ci, rfl, _, hIi⟩ := own_ints2 hown.out (by omega)
    have HIi := Lib.hid hIi
    clear hIi hown
    go_wp2_with fail
    refine (zero_any _).mono ?_
    rintro e w3 ⟨rfl, hb3⟩
    have hb13 := hbel.trans (hb3.mono hbz)
    have z13 := hb13.size
    have hI3 := Lib.hid (HIi.out.up hb3)
    have hH := fr_new w3 0
    have HH : Hid (rowGe (w3.alloc (.cells #[.int .i64 0, .int .i64 1] 45)) w3.heap.size 45 2 (frc fun _ => 0)) := Lib.hid hH
    have hbA : Below w3.heap.size w3 (w3.alloc (.cells #[.int .i64 0, .int .i64 1] 45)) := (Below.refl _ _).alloc (Nat.le_refl _) _
    have h2l : 2 ≤ l.length := by have := HL2.out; omega
    have hm0 : 0 < m := by omega
    have H2l := Lib.hid h2l
    have e2 := HG.out.e2 hm0
    have e3 := HG.out.e3 hm0
    have e4 := HG.out.e4 hm0
    have Hrat : Hid (∀ i, i < m → 0 < T.a i k → ¬ Rep (T.b i / T.a i k) → ¬ RatOK m T k) := Lib.hid (fun i hi hp hn hR => by
     have hil := mem_cnd.2 ⟨hi, hp⟩
     rw [Hl.out] at hil
     obtain ⟨j, hj, hne⟩ : ∃ j ∈ l, j ≠ i := by
      have nd : l.Nodup := Hl.out ▸ cnd_nodup
      match l, h2l, nd with
      | a :: b :: _, _, nd =>
       by_cases e : a = i
       ·exact ⟨b, by simp, fun e2 => by subst e e2; simp at nd⟩
       ·exact ⟨a, by simp, e⟩
     rw [← Hl.out] at hj
     have hj2 := mem_cnd.1 hj
     exact hn (hR i j hi hj2.1 (fun e => hne e.symm) hp hj2.2))
    clear hb3 hH h2l
    go_wp2
    go_loopw [9, 47] (fun v i wr => ∃ (p : Nat) (ls : Rat), p ≤ lI.length ∧ i = .int .i64 p ∧ Hid (FrRow wr w3.heap.size 1 (fun _ => ls)) ∧ Hid (Rep ls) ∧ Hid ((p = 0 ∧ v = .int .i64 (-1)) ∨ ∃ r : Nat, v = .int .i64 r ∧ Bst T k (l.take p) r ∧ ls = T.b r / T.a r k) ∧ Hid (∀ i ∈ l.take p, Rep (T.b i / T.a i k)) ∧ Below w3.heap.size w3 wr) (fun _ i _ => lI.length - (intOf i).toNat)
    case atStart => exact ⟨0, 0, by omega, rfl, HH, Lib.hid rep_zero, Lib.hid (.inl ⟨rfl, rfl⟩), Lib.hid (fun i hi => by simp at hi), hbA⟩
    case round =>
     obtain ⟨p, ls, hp, rfl, hFls, hRls, hst, hok, hbel2⟩ := hrel
     have hbz2 := hbel2.size
     have hb1r := hb13.trans (hbel2.mono z13)
     have hTr := Lib.hid (HT.out.up hb1r)
     have s0 := hFls.out.num (j := 0) (by omega)
     have s1 := hFls.out.den (j := 0) (by omega)
     simp only [Nat.zero_mul, Nat.zero_add] at s0 s1
     have s2 := hFls.out.frozen 0
     have s3 := hFls.out.frozen 1
     have gH := hFls.out.lt
     by_cases hlt : p < lI.length
     ·have hlt2 : p < l.length := by have := HL2.out; omega
      obtain ⟨a, ha⟩ : ∃ a, l[p] = a := ⟨_, rfl⟩
      have hn : nth lI p = (a : Int) := by
       have h1 : p < (cnd T k m).length := by rw [Hl.out]; exact hlt2
       have h2 := cnI_nth h1
       rw [HlI.out] at h2
       rw [h2]
       have : (cnd T k m)[p] = l[p] := by simp only [Hl.out]
       rw [this, ha]
      have hal : a ∈ cnd T k m := by rw [Hl.out, ← ha]; exact List.getElem_mem hlt2
      obtain ⟨ham, hap⟩ := mem_cnd.1 hal
      have htk : l.take (p + 1) = l.take p ++ [a] := by rw [List.take_succ_eq_append_getElem hlt2, ha]
      obtain ⟨bi, oi, ei, hbi, hci⟩ := hI3.out.at_ hlt
      subst ei
      have d0 := (hbel2.cell (p := ⟨bi, oi + p, none⟩) hbi).trans (hci p hlt)
      rw [hn] at d0
      have gi : bi < wr.heap.size := by omega
      have c2 := hTr.out.c2
      have c3 := hTr.out.c3
      rw [e2] at c2
      rw [e3] at c3
      have cX := hTr.out.lt
      have a2 := (hTr.out.top hm0).cell ham
      have cg := (hTr.out.top hm0).lt
      have a3 := (hTr.out.rows a ham).num hk
      have a4 := (hTr.out.rows a ham).den hk
      have ca := (hTr.out.rows a ham).lt
      have b0 := (hTr.out.right hm0).num ham
      have b1 := (hTr.out.right hm0).den ham
      have cr := (hTr.out.right hm0).lt
      have p0 : (0 : Int) ≤ (p : Int) := by omega
      have p1 : (p : Int) < (lI.length : Int) := by omega
      have q0 : (0 : Int) ≤ (a : Int) := by omega
      have q1 : (a : Int) < (m : Int) := by omega
      have ry := Hs.out.a a ham k hk
      have rx := Hs.out.b a ham
      have Hap := Lib.hid hap
      obtain ⟨ρ, hρ⟩ : ∃ ρ, T.b a / T.a a k = ρ := ⟨_, rfl⟩
      obtain ⟨y, hy⟩ : ∃ y, T.a a k = y := ⟨_, rfl⟩
      obtain ⟨x, hx⟩ : ∃ x, T.b a = x := ⟨_, rfl⟩
      have kk := fun wx => div_any x.num x.den y.num y.den wx
      have Hrat2 := Lib.hid (Hrat.out a ham hap)
      rw [hy] at a3 a4 ry hap
      rw [hx] at b0 b1 rx
      have hxy : x / y = ρ := by rw [← hx, ← hy]; exact hρ
      rw [divF_rep rx ry (fun e => by rw [e] at hap; exact absurd hap (by decide)), hxy] at kk
      unfold RetFE at kk
      have Hρ := Lib.hid hρ
      have Htk := Lib.hid htk
      have Ham := Lib.hid ham
      rw [hρ] at Hrat2
      clear hρ hy hx hxy hal ha hn htk hci rx ry hap
      by_cases hpr : Rep ρ
      case neg =>
       have HR2 := Lib.hid (Hrat2.out hpr)
       rw [not_rep hpr] at kk
       simp only [errV_5] at kk
       have K5 := Lib.hid kk
       clear kk hpr
       go_wp2_with fail
       refine wp_region_G 17 (fun w' => ∀ b o, w'.cell? ⟨b, o, none⟩ = if b < wr.heap.size then wr.cell? ⟨b, o, none⟩ else hidC w' b o) (by kernel_rfl) (cif (B := wr.heap.size) (W := wr) (Below.refl _ _).drew) ?_
       intro hG0
       refine wpS1 0 hG0 ?_; intro hG1; clear hG0
       refine wpS1 1 hG1 ?_; intro hG2; clear hG1
       refine wpS1 2 hG2 ?_; intro hG3; clear hG2
       refine wpS2 3 hG3 ?_; intro hG4; clear hG3
       refine wpS1 4 hG4 ?_; intro hG5; clear hG4
       refine wpS1 5 hG5 ?_; intro hG6; clear hG5
       refine wpS2 6 hG6 ?_; intro hG7; clear hG6
       refine wpS1 7 hG7 ?_; intro hG8; clear hG7
       refine wpS1 8 hG8 ?_; intro hG9; clear hG8
       refine wpS1 9 hG9 ?_; intro hG10; clear hG9
       refine wpS2 10 hG10 ?_; intro hG11; clear hG10
       refine wpS1 11 hG11 ?_; intro hG12; clear hG11
       refine wpS1 12 hG12 ?_; intro hG13; clear hG12
       refine wpS2 13 hG13 ?_; intro hG14; clear hG13
       refine wpS1 14 hG14 ?_; intro hG15; clear hG14
       refine wpS1 15 hG15 ?_; intro hG16; clear hG15
       refine wpS2 16 hG16 ?_; intro hG17; clear hG16
       refine wpAnyG_ready (rs := [17, 21]) (by kernel_rfl) (by simp) (AllG.cons rfl hG17 (fun K hK => ?_) (AllG.cons rfl hG17 (fun K hK => ?_) AllG.nil))
       (go_simp; go_at_call 114; refine (K5.out _).mono ?_; rintro e w4 ⟨rfl, hb4⟩)
       refine hK.out _ _ (Or.inl rfl) (fun hG18 => wpN ?_); clear hK hG17
       refine wpS1 18 hG18 ?_; intro hG19; clear hG18
       refine wpS1 19 hG19 ?_; intro hG20; clear hG19
       refine wpS1 20 hG20 ?_; intro hG21; clear hG20
       refine wpAnyG_ready (rs := [21]) (by kernel_rfl) (by simp) (AllG.cons rfl hG21 (fun K hK => ?_) AllG.nil)
       (go_simp)
       refine hK.out _ _ (Or.inl rfl) (fun hG22 => wpN ?_); clear hK hG21
       refine wpAnyG_ready (rs := [22]) (by kernel_rfl) (by simp) (AllG.cons rfl hG22 (fun K hK => ?_) AllG.nil)
       (go_simp)
       refine hK.out _ _ (Or.inl rfl) (fun hG23 => wpN ?_); clear hK hG22
       refine wpS1 23 hG23 ?_; intro hG24; clear hG23
       refine wpAnyG_done (by kernel_rfl) ?_ _; clear hG24
       rotate_left
       (go_simp)
       refine hK.out _ _ (Or.inr (cif (by exact bel))) (fun hG18 => wpN ?_); clear hK hG17
       refine wpAnyG_ready (rs := [17]) (by kernel_rfl) (by simp) (AllG.cons rfl hG18 (fun K hK => ?_) AllG.nil)
       (go_simp; go_at_call 114; refine (K5.out _).mono ?_; rintro e w4 ⟨rfl, hb4⟩; have q0 : w4.cell? ⟨wr.heap.size, 0, none⟩ = some (.int .i64 0) := (hb4.cell (p := ⟨wr.heap.size, 0, none⟩) (by simp)).trans (by simp); have q1 : w4.cell? ⟨wr.heap.size, 1, none⟩ = some (.int .i64 0) := (hb4.cell (p := ⟨wr.heap.size, 1, none⟩) (by simp)).trans (by simp); have q2 : w4.frozen? ⟨wr.heap.size, 0, none⟩ = false := (hb4.frozen (p := ⟨wr.heap.size, 0, none⟩) (by simp)).trans (by simp); have q3 : w4.frozen? ⟨wr.heap.size, 1, none⟩ = false := (hb4.frozen (p := ⟨wr.heap.size, 1, none⟩) (by simp)).trans (by simp); have q4 : wr.heap.size < w4.heap.size := (by have := hb4.size; simp at this; omega))
       refine hK.out _ _ (Or.inl rfl) (fun hG19 => wpN ?_); clear hK hG18
       refine wpS1 18 hG19 ?_; intro hG20; clear hG19
       refine wpS1 19 hG20 ?_; intro hG21; clear hG20
       refine wpS1 20 hG21 ?_; intro hG22; clear hG21
       refine wpAnyG_ready (rs := [22]) (by kernel_rfl) (by simp) (AllG.cons rfl hG22 (fun K hK => ?_) AllG.nil)
       (go_simp)
       refine hK.out _ _ (Or.inl rfl) (fun hG23 => wpN ?_); clear hK hG22
       refine wpS1 23 hG23 ?_; intro hG24; clear hG23
       refine wpAnyG_done (by kernel_rfl) ?_ _; clear hG24
       rotate_left
       ·have hb5 : Below wr.heap.size wr (w4.alloc (.cells #[.int .i64 0, .int .i64 0] 45)) := ((Below.refl _ _).drew.trans hb4).alloc (by have := hb4.size; exact this) _
        have s0 : (w4.alloc (.cells #[.int .i64 0, .int .i64 0] 45)).cell? ⟨w4.heap.size, 0, none⟩ = some (.int .i64 0) := by simp
        have s1 : (w4.alloc (.cells #[.int .i64 0, .int .i64 0] 45)).cell? ⟨w4.heap.size, 1, none⟩ = some (.int .i64 0) := by simp
        have sY : w4.heap.size < (w4.alloc (.cells #[.int .i64 0, .int .i64 0] 45)).heap.size := by simp
        have sZ : wr.heap.size ≤ w4.heap.size := hb4.size
        clear hb4
        obtain ⟨w5, hw5⟩ : ∃ w5, w5 = w4.alloc (.cells #[.int .i64 0, .int .i64 0] 45) := ⟨_, rfl⟩
        obtain ⟨Y, hY⟩ : ∃ Y, Y = w4.heap.size := ⟨_, rfl⟩
        rw [← hw5, ← hY] at s0 s1 sY; rw [← hw5] at hb5; rw [← hY] at sZ; rw [← hw5, ← hY]; clear hw5 hY
        have Hb6 := Lib.hid (hb1r.trans (hb5.mono hb1r.size))
        go_wp2
        refine bodyPost_ret (v := .tuple #[.int .i64 0, .iface 49 (.int .i64 5)]) (by simp [results, Tryz.results99, go_sem]) rfl ⟨⟨0, 5, rfl, .inr (.inr ⟨rfl, HR2.out⟩)⟩, Hb6.out⟩
       ·have hb5 : Below wr.heap.size wr ((w4.setCell ⟨wr.heap.size, 0, none⟩ (.int .i64 0)).setCell ⟨wr.heap.size, 1, none⟩ (.int .i64 0)) := ((((Below.refl _ _).drew.alloc (Nat.le_refl _) _).trans (hb4.mono (by simp))).setCell (p := ⟨wr.heap.size, 0, none⟩) (Nat.le_refl _) _).setCell (p := ⟨wr.heap.size, 1, none⟩) (Nat.le_refl _) _
        have s0 : ((w4.setCell ⟨wr.heap.size, 0, none⟩ (.int .i64 0)).setCell ⟨wr.heap.size, 1, none⟩ (.int .i64 0)).cell? ⟨wr.heap.size, 0, none⟩ = some (.int .i64 0) := by rw [World.cell?_setCell_other _ _ _ _ (by simp)]; exact World.cell?_setCell_same _ _ _ q0
        have s1 : ((w4.setCell ⟨wr.heap.size, 0, none⟩ (.int .i64 0)).setCell ⟨wr.heap.size, 1, none⟩ (.int .i64 0)).cell? ⟨wr.heap.size, 1, none⟩ = some (.int .i64 0) := World.cell?_setCell_same _ _ _ ((World.cell?_setCell_other _ _ _ _ (by simp)).trans q1)
        have sY : wr.heap.size < ((w4.setCell ⟨wr.heap.size, 0, none⟩ (.int .i64 0)).setCell ⟨wr.heap.size, 1, none⟩ (.int .i64 0)).heap.size := by simpa [World.setCell] using q4
        have sZ : wr.heap.size ≤ wr.heap.size := Nat.le_refl _
        clear hb4 q0 q1 q2 q3 q4
        obtain ⟨w5, hw5⟩ : ∃ w5, w5 = ((w4.setCell ⟨wr.heap.size, 0, none⟩ (.int .i64 0)).setCell ⟨wr.heap.size, 1, none⟩ (.int .i64 0)) := ⟨_, rfl⟩
        rw [← hw5] at hb5 s0 s1 sY; rw [← hw5]; clear hw5
        have Hb6 := Lib.hid (hb1r.trans (hb5.mono hb1r.size))
        go_wp2
        refine bodyPost_ret (v := .tuple #[.int .i64 0, .iface 49 (.int .i64 5)]) (by simp [results, Tryz.results99, go_sem]) rfl ⟨⟨0, 5, rfl, .inr (.inr ⟨rfl, HR2.out⟩)⟩, Hb6.out⟩
      have Hpr := Lib.hid hpr
      rw [rep_toF hpr] at kk
      simp only [errV_0] at kk
      have K5 := Lib.hid kk
      have kc := fun wx => cmp_any ρ.num ρ.den ls.num ls.den wx
      rw [cmp_rat hpr hRls.out] at kc
      have c4 := hTr.out.c4
      rw [e4] at c4
      clear kk hpr
      rcases hst.out with ⟨hp0, rfl⟩ | ⟨r, rfl, hbst, hls⟩
      case inl =>
       obtain ⟨cv, hcv⟩ : ∃ cv : Int, (if ρ < ls then -1 else if ls < ρ then 1 else 0) = cv := ⟨_, rfl⟩
       rw [hcv] at kc
       have KC := Lib.hid kc
       have HN := Lib.hid (show Bst T k (l.take (p + 1)) a from by
        rw [Htk.out, hp0]
        exact ⟨by simp, fun i hi => by simp at hi; subst hi; exact .inr ⟨rfl, Nat.le_refl _⟩⟩)
       clear kc hcv hp0
       go_wp2_with fail
       refine wp_region_G 17 (fun w' => ∀ b o, w'.cell? ⟨b, o, none⟩ = if b < wr.heap.size then wr.cell? ⟨b, o, none⟩ else hidC w' b o) (by kernel_rfl) (cif (B := wr.heap.size) (W := wr) (Below.refl _ _).drew) ?_
       intro hG0
       refine wpS1 0 hG0 ?_; intro hG1; clear hG0
       refine wpS1 1 hG1 ?_; intro hG2; clear hG1
       refine wpS1 2 hG2 ?_; intro hG3; clear hG2
       refine wpS2 3 hG3 ?_; intro hG4; clear hG3
       refine wpS1 4 hG4 ?_; intro hG5; clear hG4
       refine wpS1 5 hG5 ?_; intro hG6; clear hG5
       refine wpS2 6 hG6 ?_; intro hG7; clear hG6
       refine wpS1 7 hG7 ?_; intro hG8; clear hG7
       refine wpS1 8 hG8 ?_; intro hG9; clear hG8
       refine wpS1 9 hG9 ?_; intro hG10; clear hG9
       refine wpS2 10 hG10 ?_; intro hG11; clear hG10
       refine wpS1 11 hG11 ?_; intro hG12; clear hG11
       refine wpS1 12 hG12 ?_; intro hG13; clear hG12
       refine wpS2 13 hG13 ?_; intro hG14; clear hG13
       refine wpS1 14 hG14 ?_; intro hG15; clear hG14
       refine wpS1 15 hG15 ?_; intro hG16; clear hG15
       refine wpS2 16 hG16 ?_; intro hG17; clear hG16
       refine wpAnyG_ready (rs := [17, 21]) (by kernel_rfl) (by simp) (AllG.cons rfl hG17 (fun K hK => ?_) (AllG.cons rfl hG17 (fun K hK => ?_) AllG.nil))
       (go_simp; go_at_call 114; refine (K5.out _).mono ?_; rintro e w4 ⟨rfl, hb4⟩)
       refine hK.out _ _ (Or.inl rfl) (fun hG18 => wpN ?_); clear hK hG17
       refine wpS1 18 hG18 ?_; intro hG19; clear hG18
       refine wpS1 19 hG19 ?_; intro hG20; clear hG19
       refine wpS1 20 hG20 ?_; intro hG21; clear hG20
       refine wpAnyG_ready (rs := [21]) (by kernel_rfl) (by simp) (AllG.cons rfl hG21 (fun K hK => ?_) AllG.nil)
       (go_simp)
       refine hK.out _ _ (Or.inl rfl) (fun hG22 => wpN ?_); clear hK hG21
       refine wpAnyG_ready (rs := [22]) (by kernel_rfl) (by simp) (AllG.cons rfl hG22 (fun K hK => ?_) AllG.nil)
       (go_simp)
       refine hK.out _ _ (Or.inl rfl) (fun hG23 => wpN ?_); clear hK hG22
       refine wpS1 23 hG23 ?_; intro hG24; clear hG23
       refine wpAnyG_done (by kernel_rfl) ?_ _; clear hG24
       rotate_left
       (go_simp)
       refine hK.out _ _ (Or.inr (cif (by exact bel))) (fun hG18 => wpN ?_); clear hK hG17
       refine wpAnyG_ready (rs := [17]) (by kernel_rfl) (by simp) (AllG.cons rfl hG18 (fun K hK => ?_) AllG.nil)
       (go_simp; go_at_call 114; refine (K5.out _).mono ?_; rintro e w4 ⟨rfl, hb4⟩; have q0 : w4.cell? ⟨wr.heap.size, 0, none⟩ = some (.int .i64 0) := (hb4.cell (p := ⟨wr.heap.size, 0, none⟩) (by simp)).trans (by simp); have q1 : w4.cell? ⟨wr.heap.size, 1, none⟩ = some (.int .i64 0) := (hb4.cell (p := ⟨wr.heap.size, 1, none⟩) (by simp)).trans (by simp); have q2 : w4.frozen? ⟨wr.heap.size, 0, none⟩ = false := (hb4.frozen (p := ⟨wr.heap.size, 0, none⟩) (by simp)).trans (by simp); have q3 : w4.frozen? ⟨wr.heap.size, 1, none⟩ = false := (hb4.frozen (p := ⟨wr.heap.size, 1, none⟩) (by simp)).trans (by simp); have q4 : wr.heap.size < w4.heap.size := (by have := hb4.size; simp at this; omega))
       refine hK.out _ _ (Or.inl rfl) (fun hG19 => wpN ?_); clear hK hG18
       refine wpS1 18 hG19 ?_; intro hG20; clear hG19
       refine wpS1 19 hG20 ?_; intro hG21; clear hG20
       refine wpS1 20 hG21 ?_; intro hG22; clear hG21
       refine wpAnyG_ready (rs := [22]) (by kernel_rfl) (by simp) (AllG.cons rfl hG22 (fun K hK => ?_) AllG.nil)
       (go_simp)
       refine hK.out _ _ (Or.inl rfl) (fun hG23 => wpN ?_); clear hK hG22
       refine wpS1 23 hG23 ?_; intro hG24; clear hG23
       refine wpAnyG_done (by kernel_rfl) ?_ _; clear hG24
       rotate_left
       ·have hb5 : Below wr.heap.size wr (w4.alloc (.cells #[.int .i64 ρ.num, .int .i64 ρ.den] 45)) := ((Below.refl _ _).drew.trans hb4).alloc (by have := hb4.size; exact this) _
        have s0 : (w4.alloc (.cells #[.int .i64 ρ.num, .int .i64 ρ.den] 45)).cell? ⟨w4.heap.size, 0, none⟩ = some (.int .i64 ρ.num) := by simp
        have s1 : (w4.alloc (.cells #[.int .i64 ρ.num, .int .i64 ρ.den] 45)).cell? ⟨w4.heap.size, 1, none⟩ = some (.int .i64 ρ.den) := by simp
        have sY : w4.heap.size < (w4.alloc (.cells #[.int .i64 ρ.num, .int .i64 ρ.den] 45)).heap.size := by simp
        have sZ : wr.heap.size ≤ w4.heap.size := hb4.size
        clear hb4
        obtain ⟨w5, hw5⟩ : ∃ w5, w5 = w4.alloc (.cells #[.int .i64 ρ.num, .int .i64 ρ.den] 45) := ⟨_, rfl⟩
        obtain ⟨Y, hY⟩ : ∃ Y, Y = w4.heap.size := ⟨_, rfl⟩
        rw [← hw5, ← hY] at s0 s1 sY; rw [← hw5] at hb5; rw [← hY] at sZ; rw [← hw5, ← hY]; clear hw5 hY
        have hbA5 := hbel2.trans (hb5.mono hbz2)
        have hF5 := Lib.hid (hFls.out.up hb5)
        have u0 := FrRow.num hF5.out (j := 0) (by omega)
        have u1 := FrRow.den hF5.out (j := 0) (by omega)
        simp only [Nat.zero_mul, Nat.zero_add] at u0 u1
        have u4 := FrRow.lt hF5.out
        have z35 := hbA5.size
        go_wp2_with fail
        refine (KC.out _).mono ?_
        rintro e w6 ⟨rfl, hb6⟩
        have hbA6 := hbA5.trans (hb6.mono z35)
        have x0 := (hb6.cell (p := ⟨Y, 0, none⟩) sY).trans s0
        have x1 := (hb6.cell (p := ⟨Y, 1, none⟩) sY).trans s1
        have sY6 : Y < w6.heap.size := Nat.lt_of_lt_of_le sY hb6.size
        have hF6 := Lib.hid (FrRow.up hF5.out hb6)
        have v0 := FrRow.num hF6.out (j := 0) (by omega)
        have v1 := FrRow.den hF6.out (j := 0) (by omega)
        simp only [Nat.zero_mul, Nat.zero_add] at v0 v1
        have v2 := FrRow.frozen hF6.out 0
        have v3 := FrRow.frozen hF6.out 1
        have v4 := FrRow.lt hF6.out
        have hT6 := Lib.hid (HT.out.up (hb13.trans (hbA6.mono z13)))
        have c4' := hT6.out.c4
        rw [e4] at c4'
        have cX6 := hT6.out.lt
        have cb6 := (hT6.out.basic hm0).lt
        have n0' := (hT6.out.basic hm0).cell Ham.out
        try have n1' := (hT6.out.basic hm0).cell Hrm.out
        clear hb5 hb6 s0 s1 u0 u1 sY
        go_wp2_with fail
        go_quiet (fail)
        go_wp2_with fail
        refine wp_region_G 3 (fun w' => w'.cell? ⟨Y, 0, none⟩ = some (.int .i64 ρ.num) ∧ w'.cell? ⟨Y, 1, none⟩ = some (.int .i64 ρ.den)) (by kernel_rfl) ((by constructor <;> (simp; assumption))) ?_
        intro hG0
        refine wpS1 0 hG0 ?_; intro hG1; clear hG0
        refine wpS2 1 hG1 ?_; intro hG2; clear hG1
        refine wpS1 2 hG2 ?_; intro hG3; clear hG2
        refine wpAnyG_ready (rs := [3]) (by kernel_rfl) (by simp) (AllG.cons rfl hG3 (fun K hK => ?_) AllG.nil)
        (go_simp)
        refine hK.out _ _ (Or.inl rfl) (fun hG4 => wpN ?_); clear hK hG3
        refine wpAnyG_done (by kernel_rfl) ?_ _; clear hG4
        have HFr := Lib.hid (fr_of (FrRow.up hF6.out (below_dN (Below.refl _ _) (nq + 1))) ρ)
        go_wp2
        go_roundw
        case rel => exact ⟨p + 1, ρ, by omega, by go_num, HFr, Hpr, Lib.hid (.inr ⟨a, rfl, HN.out, Hρ.out.symm⟩), Lib.hid (fun i hi => by rw [Htk.out] at hi; rcases List.mem_append.1 hi with h | h; exact hok.out i h; (simp at h; subst h; exact Hρ.out ▸ Hpr.out)), ((below_dN hbA6 _).setCell (p := ⟨w3.heap.size, 0, none⟩) (Nat.le_refl _) _).setCell (p := ⟨w3.heap.size, 1, none⟩) (Nat.le_refl _) _⟩
        case measure => simp [intOf]; omega
       ·have hb5 : Below wr.heap.size wr ((w4.setCell ⟨wr.heap.size, 0, none⟩ (.int .i64 ρ.num)).setCell ⟨wr.heap.size, 1, none⟩ (.int .i64 ρ.den)) := ((((Below.refl _ _).drew.alloc (Nat.le_refl _) _).trans (hb4.mono (by simp))).setCell (p := ⟨wr.heap.size, 0, none⟩) (Nat.le_refl _) _).setCell (p := ⟨wr.heap.size, 1, none⟩) (Nat.le_refl _) _
        have s0 : ((w4.setCell ⟨wr.heap.size, 0, none⟩ (.int .i64 ρ.num)).setCell ⟨wr.heap.size, 1, none⟩ (.int .i64 ρ.den)).cell? ⟨wr.heap.size, 0, none⟩ = some (.int .i64 ρ.num) := by rw [World.cell?_setCell_other _ _ _ _ (by simp)]; exact World.cell?_setCell_same _ _ _ q0
        have s1 : ((w4.setCell ⟨wr.heap.size, 0, none⟩ (.int .i64 ρ.num)).setCell ⟨wr.heap.size, 1, none⟩ (.int .i64 ρ.den)).cell? ⟨wr.heap.size, 1, none⟩ = some (.int .i64 ρ.den) := World.cell?_setCell_same _ _ _ ((World.cell?_setCell_other _ _ _ _ (by simp)).trans q1)
        have sY : wr.heap.size < ((w4.setCell ⟨wr.heap.size, 0, none⟩ (.int .i64 ρ.num)).setCell ⟨wr.heap.size, 1, none⟩ (.int .i64 ρ.den)).heap.size := by simpa [World.setCell] using q4
        have sZ : wr.heap.size ≤ wr.heap.size := Nat.le_refl _
        clear hb4 q0 q1 q2 q3 q4
        obtain ⟨w5, hw5⟩ : ∃ w5, w5 = ((w4.setCell ⟨wr.heap.size, 0, none⟩ (.int .i64 ρ.num)).setCell ⟨wr.heap.size, 1, none⟩ (.int .i64 ρ.den)) := ⟨_, rfl⟩
        rw [← hw5] at hb5 s0 s1 sY; rw [← hw5]; clear hw5
        have hbA5 := hbel2.trans (hb5.mono hbz2)
        have hF5 := Lib.hid (hFls.out.up hb5)
        have u0 := FrRow.num hF5.out (j := 0) (by omega)
        have u1 := FrRow.den hF5.out (j := 0) (by omega)
        simp only [Nat.zero_mul, Nat.zero_add] at u0 u1
        have u4 := FrRow.lt hF5.out
        have z35 := hbA5.size
        go_wp2_with fail
        refine (KC.out _).mono ?_
        rintro e w6 ⟨rfl, hb6⟩
        have hbA6 := hbA5.trans (hb6.mono z35)
        have x0 := (hb6.cell (p := ⟨wr.heap.size, 0, none⟩) sY).trans s0
        have x1 := (hb6.cell (p := ⟨wr.heap.size, 1, none⟩) sY).trans s1
        have sY6 : wr.heap.size < w6.heap.size := Nat.lt_of_lt_of_le sY hb6.size
        have hF6 := Lib.hid (FrRow.up hF5.out hb6)
        have v0 := FrRow.num hF6.out (j := 0) (by omega)
        have v1 := FrRow.den hF6.out (j := 0) (by omega)
        simp only [Nat.zero_mul, Nat.zero_add] at v0 v1
        have v2 := FrRow.frozen hF6.out 0
        have v3 := FrRow.frozen hF6.out 1
        have v4 := FrRow.lt hF6.out
        have hT6 := Lib.hid (HT.out.up (hb13.trans (hbA6.mono z13)))
        have c4' := hT6.out.c4
        rw [e4] at c4'
        have cX6 := hT6.out.lt
        have cb6 := (hT6.out.basic hm0).lt
        have n0' := (hT6.out.basic hm0).cell Ham.out
        try have n1' := (hT6.out.basic hm0).cell Hrm.out
        clear hb5 hb6 s0 s1 u0 u1 sY
        go_wp2_with fail
        go_quiet (fail)
        go_wp2_with fail
        refine wp_region_G 3 (fun w' => w'.cell? ⟨wr.heap.size, 0, none⟩ = some (.int .i64 ρ.num) ∧ w'.cell? ⟨wr.heap.size, 1, none⟩ = some (.int .i64 ρ.den)) (by kernel_rfl) ((by constructor <;> (simp; assumption))) ?_
        intro hG0
        refine wpS1 0 hG0 ?_; intro hG1; clear hG0
        refine wpS2 1 hG1 ?_; intro hG2; clear hG1
        refine wpS1 2 hG2 ?_; intro hG3; clear hG2
        refine wpAnyG_ready (rs := [3]) (by kernel_rfl) (by simp) (AllG.cons rfl hG3 (fun K hK => ?_) AllG.nil)
        (go_simp)
        refine hK.out _ _ (Or.inl rfl) (fun hG4 => wpN ?_); clear hK hG3
        refine wpAnyG_done (by kernel_rfl) ?_ _; clear hG4
        have HFr := Lib.hid (fr_of (FrRow.up hF6.out (below_dN (Below.refl _ _) (nq + 1))) ρ)
        go_wp2
        go_roundw
        case rel => exact ⟨p + 1, ρ, by omega, by go_num, HFr, Hpr, Lib.hid (.inr ⟨a, rfl, HN.out, Hρ.out.symm⟩), Lib.hid (fun i hi => by rw [Htk.out] at hi; rcases List.mem_append.1 hi with h | h; exact hok.out i h; (simp at h; subst h; exact Hρ.out ▸ Hpr.out)), ((below_dN hbA6 _).setCell (p := ⟨w3.heap.size, 0, none⟩) (Nat.le_refl _) _).setCell (p := ⟨w3.heap.size, 1, none⟩) (Nat.le_refl _) _⟩
        case measure => simp [intOf]; omega
      have hrl : r ∈ cnd T k m := by rw [Hl.out]; exact List.mem_of_mem_take hbst.1
      obtain ⟨hrm, hrp⟩ := mem_cnd.1 hrl
      have Hrm := Lib.hid hrm
      have n0 := (hTr.out.basic hm0).cell ham
      have n1 := (hTr.out.basic hm0).cell hrm
      have cb := (hTr.out.basic hm0).lt
      have r0 : (0 : Int) ≤ (r : Int) := by omega
      have r1 : (r : Int) < (m : Int) := by omega
      have hr0 : decide ((r : Int) < 0) = false := decide_eq_false (by omega)
      have Hbst := Lib.hid hbst
      have Hls := Lib.hid hls
      clear hrl hrp hbst hls
      by_cases h1 : ρ < ls
      ·rw [if_pos h1] at kc
       have KC := Lib.hid kc
       have HN := Lib.hid (show Bst T k (l.take (p + 1)) a from by
        rw [Htk.out]
        refine ⟨by simp, fun i hi => ?_⟩
        rcases List.mem_append.1 hi with h | h
        ·rcases Hbst.out.2 i h with h2 | h2
         ·refine .inl ?_; rw [Hρ.out]; rw [← Hls.out] at h2; grind
         ·refine .inl ?_; rw [Hρ.out]; rw [← Hls.out] at h2; grind
        ·simp at h; subst h; exact .inr ⟨rfl, Nat.le_refl _⟩)
       clear kc h1
       go_wp2_with fail
       refine wp_region_G 17 (fun w' => ∀ b o, w'.cell? ⟨b, o, none⟩ = if b < wr.heap.size then wr.cell? ⟨b, o, none⟩ else hidC w' b o) (by kernel_rfl) (cif (B := wr.heap.size) (W := wr) (Below.refl _ _).drew) ?_
       intro hG0
       refine wpS1 0 hG0 ?_; intro hG1; clear hG0
       refine wpS1 1 hG1 ?_; intro hG2; clear hG1
       refine wpS1 2 hG2 ?_; intro hG3; clear hG2
       refine wpS2 3 hG3 ?_; intro hG4; clear hG3
       refine wpS1 4 hG4 ?_; intro hG5; clear hG4
       refine wpS1 5 hG5 ?_; intro hG6; clear hG5
       refine wpS2 6 hG6 ?_; intro hG7; clear hG6
       refine wpS1 7 hG7 ?_; intro hG8; clear hG7
       refine wpS1 8 hG8 ?_; intro hG9; clear hG8
       refine wpS1 9 hG9 ?_; intro hG10; clear hG9
       refine wpS2 10 hG10 ?_; intro hG11; clear hG10
       refine wpS1 11 hG11 ?_; intro hG12; clear hG11
       refine wpS1 12 hG12 ?_; intro hG13; clear hG12
       refine wpS2 13 hG13 ?_; intro hG14; clear hG13
       refine wpS1 14 hG14 ?_; intro hG15; clear hG14
       refine wpS1 15 hG15 ?_; intro hG16; clear hG15
       refine wpS2 16 hG16 ?_; intro hG17; clear hG16
       refine wpAnyG_ready (rs := [17, 21]) (by kernel_rfl) (by simp) (AllG.cons rfl hG17 (fun K hK => ?_) (AllG.cons rfl hG17 (fun K hK => ?_) AllG.nil))
       (go_simp; go_at_call 114; refine (K5.out _).mono ?_; rintro e w4 ⟨rfl, hb4⟩)
       refine hK.out _ _ (Or.inl rfl) (fun hG18 => wpN ?_); clear hK hG17
       refine wpS1 18 hG18 ?_; intro hG19; clear hG18
       refine wpS1 19 hG19 ?_; intro hG20; clear hG19
       refine wpS1 20 hG20 ?_; intro hG21; clear hG20
       refine wpAnyG_ready (rs := [21]) (by kernel_rfl) (by simp) (AllG.cons rfl hG21 (fun K hK => ?_) AllG.nil)
       (go_simp)
       refine hK.out _ _ (Or.inl rfl) (fun hG22 => wpN ?_); clear hK hG21
       refine wpAnyG_ready (rs := [22]) (by kernel_rfl) (by simp) (AllG.cons rfl hG22 (fun K hK => ?_) AllG.nil)
       (go_simp)
       refine hK.out _ _ (Or.inl rfl) (fun hG23 => wpN ?_); clear hK hG22
       refine wpS1 23 hG23 ?_; intro hG24; clear hG23
       refine wpAnyG_done (by kernel_rfl) ?_ _; clear hG24
       rotate_left
       (go_simp)
       refine hK.out _ _ (Or.inr (cif (by exact bel))) (fun hG18 => wpN ?_); clear hK hG17
       refine wpAnyG_ready (rs := [17]) (by kernel_rfl) (by simp) (AllG.cons rfl hG18 (fun K hK => ?_) AllG.nil)
       (go_simp; go_at_call 114; refine (K5.out _).mono ?_; rintro e w4 ⟨rfl, hb4⟩; have q0 : w4.cell? ⟨wr.heap.size, 0, none⟩ = some (.int .i64 0) := (hb4.cell (p := ⟨wr.heap.size, 0, none⟩) (by simp)).trans (by simp); have q1 : w4.cell? ⟨wr.heap.size, 1, none⟩ = some (.int .i64 0) := (hb4.cell (p := ⟨wr.heap.size, 1, none⟩) (by simp)).trans (by simp); have q2 : w4.frozen? ⟨wr.heap.size, 0, none⟩ = false := (hb4.frozen (p := ⟨wr.heap.size, 0, none⟩) (by simp)).trans (by simp); have q3 : w4.frozen? ⟨wr.heap.size, 1, none⟩ = false := (hb4.frozen (p := ⟨wr.heap.size, 1, none⟩) (by simp)).trans (by simp); have q4 : wr.heap.size < w4.heap.size := (by have := hb4.size; simp at this; omega))
       refine hK.out _ _ (Or.inl rfl) (fun hG19 => wpN ?_); clear hK hG18
       refine wpS1 18 hG19 ?_; intro hG20; clear hG19
       refine wpS1 19 hG20 ?_; intro hG21; clear hG20
       refine wpS1 20 hG21 ?_; intro hG22; clear hG21
       refine wpAnyG_ready (rs := [22]) (by kernel_rfl) (by simp) (AllG.cons rfl hG22 (fun K hK => ?_) AllG.nil)
       (go_simp)
       refine hK.out _ _ (Or.inl rfl) (fun hG23 => wpN ?_); clear hK hG22
       refine wpS1 23 hG23 ?_; intro hG24; clear hG23
       refine wpAnyG_done (by kernel_rfl) ?_ _; clear hG24
       rotate_left
       ·have hb5 : Below wr.heap.size wr (w4.alloc (.cells #[.int .i64 ρ.num, .int .i64 ρ.den] 45)) := ((Below.refl _ _).drew.trans hb4).alloc (by have := hb4.size; exact this) _
        have s0 : (w4.alloc (.cells #[.int .i64 ρ.num, .int .i64 ρ.den] 45)).cell? ⟨w4.heap.size, 0, none⟩ = some (.int .i64 ρ.num) := by simp
        have s1 : (w4.alloc (.cells #[.int .i64 ρ.num, .int .i64 ρ.den] 45)).cell? ⟨w4.heap.size, 1, none⟩ = some (.int .i64 ρ.den) := by simp
        have sY : w4.heap.size < (w4.alloc (.cells #[.int .i64 ρ.num, .int .i64 ρ.den] 45)).heap.size := by simp
        have sZ : wr.heap.size ≤ w4.heap.size := hb4.size
        clear hb4
        obtain ⟨w5, hw5⟩ : ∃ w5, w5 = w4.alloc (.cells #[.int .i64 ρ.num, .int .i64 ρ.den] 45) := ⟨_, rfl⟩
        obtain ⟨Y, hY⟩ : ∃ Y, Y = w4.heap.size := ⟨_, rfl⟩
        rw [← hw5, ← hY] at s0 s1 sY; rw [← hw5] at hb5; rw [← hY] at sZ; rw [← hw5, ← hY]; clear hw5 hY
        have hbA5 := hbel2.trans (hb5.mono hbz2)
        have hF5 := Lib.hid (hFls.out.up hb5)
        have u0 := FrRow.num hF5.out (j := 0) (by omega)
        have u1 := FrRow.den hF5.out (j := 0) (by omega)
        simp only [Nat.zero_mul, Nat.zero_add] at u0 u1
        have u4 := FrRow.lt hF5.out
        have z35 := hbA5.size
        go_wp2_with fail
        refine (KC.out _).mono ?_
        rintro e w6 ⟨rfl, hb6⟩
        have hbA6 := hbA5.trans (hb6.mono z35)
        have x0 := (hb6.cell (p := ⟨Y, 0, none⟩) sY).trans s0
        have x1 := (hb6.cell (p := ⟨Y, 1, none⟩) sY).trans s1
        have sY6 : Y < w6.heap.size := Nat.lt_of_lt_of_le sY hb6.size
        have hF6 := Lib.hid (FrRow.up hF5.out hb6)
        have v0 := FrRow.num hF6.out (j := 0) (by omega)
        have v1 := FrRow.den hF6.out (j := 0) (by omega)
        simp only [Nat.zero_mul, Nat.zero_add] at v0 v1
        have v2 := FrRow.frozen hF6.out 0
        have v3 := FrRow.frozen hF6.out 1
        have v4 := FrRow.lt hF6.out
        have hT6 := Lib.hid (HT.out.up (hb13.trans (hbA6.mono z13)))
        have c4' := hT6.out.c4
        rw [e4] at c4'
        have cX6 := hT6.out.lt
        have cb6 := (hT6.out.basic hm0).lt
        have n0' := (hT6.out.basic hm0).cell Ham.out
        try have n1' := (hT6.out.basic hm0).cell Hrm.out
        clear hb5 hb6 s0 s1 u0 u1 sY
        go_wp2_with fail
        go_quiet (fail)
        go_wp2_with fail
        refine wp_region_G 3 (fun w' => w'.cell? ⟨Y, 0, none⟩ = some (.int .i64 ρ.num) ∧ w'.cell? ⟨Y, 1, none⟩ = some (.int .i64 ρ.den)) (by kernel_rfl) ((by constructor <;> (simp; assumption))) ?_
        intro hG0
        refine wpS1 0 hG0 ?_; intro hG1; clear hG0
        refine wpS2 1 hG1 ?_; intro hG2; clear hG1
        refine wpS1 2 hG2 ?_; intro hG3; clear hG2
        refine wpAnyG_ready (rs := [3]) (by kernel_rfl) (by simp) (AllG.cons rfl hG3 (fun K hK => ?_) AllG.nil)
        (go_simp)
        refine hK.out _ _ (Or.inl rfl) (fun hG4 => wpN ?_); clear hK hG3
        refine wpAnyG_done (by kernel_rfl) ?_ _; clear hG4
        have HFr := Lib.hid (fr_of (FrRow.up hF6.out (below_dN (Below.refl _ _) (nq + 1))) ρ)
        go_wp2
        go_roundw
        case rel => exact ⟨p + 1, ρ, by omega, by go_num, HFr, Hpr, Lib.hid (.inr ⟨a, rfl, HN.out, Hρ.out.symm⟩), Lib.hid (fun i hi => by rw [Htk.out] at hi; rcases List.mem_append.1 hi with h | h; exact hok.out i h; (simp at h; subst h; exact Hρ.out ▸ Hpr.out)), ((below_dN hbA6 _).setCell (p := ⟨w3.heap.size, 0, none⟩) (Nat.le_refl _) _).setCell (p := ⟨w3.heap.size, 1, none⟩) (Nat.le_refl _) _⟩
        case measure => simp [intOf]; omega
       ·have hb5 : Below wr.heap.size wr ((w4.setCell ⟨wr.heap.size, 0, none⟩ (.int .i64 ρ.num)).setCell ⟨wr.heap.size, 1, none⟩ (.int .i64 ρ.den)) := ((((Below.refl _ _).drew.alloc (Nat.le_refl _) _).trans (hb4.mono (by simp))).setCell (p := ⟨wr.heap.size, 0, none⟩) (Nat.le_refl _) _).setCell (p := ⟨wr.heap.size, 1, none⟩) (Nat.le_refl _) _
        have s0 : ((w4.setCell ⟨wr.heap.size, 0, none⟩ (.int .i64 ρ.num)).setCell ⟨wr.heap.size, 1, none⟩ (.int .i64 ρ.den)).cell? ⟨wr.heap.size, 0, none⟩ = some (.int .i64 ρ.num) := by rw [World.cell?_setCell_other _ _ _ _ (by simp)]; exact World.cell?_setCell_same _ _ _ q0
        have s1 : ((w4.setCell ⟨wr.heap.size, 0, none⟩ (.int .i64 ρ.num)).setCell ⟨wr.heap.size, 1, none⟩ (.int .i64 ρ.den)).cell? ⟨wr.heap.size, 1, none⟩ = some (.int .i64 ρ.den) := World.cell?_setCell_same _ _ _ ((World.cell?_setCell_other _ _ _ _ (by simp)).trans q1)
        have sY : wr.heap.size < ((w4.setCell ⟨wr.heap.size, 0, none⟩ (.int .i64 ρ.num)).setCell ⟨wr.heap.size, 1, none⟩ (.int .i64 ρ.den)).heap.size := by simpa [World.setCell] using q4
        have sZ : wr.heap.size ≤ wr.heap.size := Nat.le_refl _
        clear hb4 q0 q1 q2 q3 q4
        obtain ⟨w5, hw5⟩ : ∃ w5, w5 = ((w4.setCell ⟨wr.heap.size, 0, none⟩ (.int .i64 ρ.num)).setCell ⟨wr.heap.size, 1, none⟩ (.int .i64 ρ.den)) := ⟨_, rfl⟩
        rw [← hw5] at hb5 s0 s1 sY; rw [← hw5]; clear hw5
        have hbA5 := hbel2.trans (hb5.mono hbz2)
        have hF5 := Lib.hid (hFls.out.up hb5)
        have u0 := FrRow.num hF5.out (j := 0) (by omega)
        have u1 := FrRow.den hF5.out (j := 0) (by omega)
        simp only [Nat.zero_mul, Nat.zero_add] at u0 u1
        have u4 := FrRow.lt hF5.out
        have z35 := hbA5.size
        go_wp2_with fail
        refine (KC.out _).mono ?_
        rintro e w6 ⟨rfl, hb6⟩
        have hbA6 := hbA5.trans (hb6.mono z35)
        have x0 := (hb6.cell (p := ⟨wr.heap.size, 0, none⟩) sY).trans s0
        have x1 := (hb6.cell (p := ⟨wr.heap.size, 1, none⟩) sY).trans s1
        have sY6 : wr.heap.size < w6.heap.size := Nat.lt_of_lt_of_le sY hb6.size
        have hF6 := Lib.hid (FrRow.up hF5.out hb6)
        have v0 := FrRow.num hF6.out (j := 0) (by omega)
        have v1 := FrRow.den hF6.out (j := 0) (by omega)
        simp only [Nat.zero_mul, Nat.zero_add] at v0 v1
        have v2 := FrRow.frozen hF6.out 0
        have v3 := FrRow.frozen hF6.out 1
        have v4 := FrRow.lt hF6.out
        have hT6 := Lib.hid (HT.out.up (hb13.trans (hbA6.mono z13)))
        have c4' := hT6.out.c4
        rw [e4] at c4'
        have cX6 := hT6.out.lt
        have cb6 := (hT6.out.basic hm0).lt
        have n0' := (hT6.out.basic hm0).cell Ham.out
        try have n1' := (hT6.out.basic hm0).cell Hrm.out
        clear hb5 hb6 s0 s1 u0 u1 sY
        go_wp2_with fail
        go_quiet (fail)
        go_wp2_with fail
        refine wp_region_G 3 (fun w' => w'.cell? ⟨wr.heap.size, 0, none⟩ = some (.int .i64 ρ.num) ∧ w'.cell? ⟨wr.heap.size, 1, none⟩ = some (.int .i64 ρ.den)) (by kernel_rfl) ((by constructor <;> (simp; assumption))) ?_
        intro hG0
        refine wpS1 0 hG0 ?_; intro hG1; clear hG0
        refine wpS2 1 hG1 ?_; intro hG2; clear hG1
        refine wpS1 2 hG2 ?_; intro hG3; clear hG2
        refine wpAnyG_ready (rs := [3]) (by kernel_rfl) (by simp) (AllG.cons rfl hG3 (fun K hK => ?_) AllG.nil)
        (go_simp)
        refine hK.out _ _ (Or.inl rfl) (fun hG4 => wpN ?_); clear hK hG3
        refine wpAnyG_done (by kernel_rfl) ?_ _; clear hG4
        have HFr := Lib.hid (fr_of (FrRow.up hF6.out (below_dN (Below.refl _ _) (nq + 1))) ρ)
        go_wp2
        go_roundw
        case rel => exact ⟨p + 1, ρ, by omega, by go_num, HFr, Hpr, Lib.hid (.inr ⟨a, rfl, HN.out, Hρ.out.symm⟩), Lib.hid (fun i hi => by rw [Htk.out] at hi; rcases List.mem_append.1 hi with h | h; exact hok.out i h; (simp at h; subst h; exact Hρ.out ▸ Hpr.out)), ((below_dN hbA6 _).setCell (p := ⟨w3.heap.size, 0, none⟩) (Nat.le_refl _) _).setCell (p := ⟨w3.heap.size, 1, none⟩) (Nat.le_refl _) _⟩
        case measure => simp [intOf]; omega
      rw [if_neg h1] at kc
      by_cases h2 : ls < ρ
      ·rw [if_pos h2] at kc
       have KC := Lib.hid kc
       have HN := Lib.hid (show Bst T k (l.take (p + 1)) r from by
        rw [Htk.out]
        refine ⟨List.mem_append_left _ Hbst.out.1, fun i hi => ?_⟩
        rcases List.mem_append.1 hi with h | h
        ·exact Hbst.out.2 i h
        ·simp at h; subst h; exact .inl (by rw [Hρ.out, ← Hls.out]; exact h2))
       clear kc h1 h2
       go_wp2_with fail
       refine wp_region_G 17 (fun w' => ∀ b o, w'.cell? ⟨b, o, none⟩ = if b < wr.heap.size then wr.cell? ⟨b, o, none⟩ else hidC w' b o) (by kernel_rfl) (cif (B := wr.heap.size) (W := wr) (Below.refl _ _).drew) ?_
       intro hG0
       refine wpS1 0 hG0 ?_; intro hG1; clear hG0
       refine wpS1 1 hG1 ?_; intro hG2; clear hG1
       refine wpS1 2 hG2 ?_; intro hG3; clear hG2
       refine wpS2 3 hG3 ?_; intro hG4; clear hG3
       refine wpS1 4 hG4 ?_; intro hG5; clear hG4
       refine wpS1 5 hG5 ?_; intro hG6; clear hG5
       refine wpS2 6 hG6 ?_; intro hG7; clear hG6
       refine wpS1 7 hG7 ?_; intro hG8; clear hG7
       refine wpS1 8 hG8 ?_; intro hG9; clear hG8
       refine wpS1 9 hG9 ?_; intro hG10; clear hG9
       refine wpS2 10 hG10 ?_; intro hG11; clear hG10
       refine wpS1 11 hG11 ?_; intro hG12; clear hG11
       refine wpS1 12 hG12 ?_; intro hG13; clear hG12
       refine wpS2 13 hG13 ?_; intro hG14; clear hG13
       refine wpS1 14 hG14 ?_; intro hG15; clear hG14
       refine wpS1 15 hG15 ?_; intro hG16; clear hG15
       refine wpS2 16 hG16 ?_; intro hG17; clear hG16
       refine wpAnyG_ready (rs := [17, 21]) (by kernel_rfl) (by simp) (AllG.cons rfl hG17 (fun K hK => ?_) (AllG.cons rfl hG17 (fun K hK => ?_) AllG.nil))
       (go_simp; go_at_call 114; refine (K5.out _).mono ?_; rintro e w4 ⟨rfl, hb4⟩)
       refine hK.out _ _ (Or.inl rfl) (fun hG18 => wpN ?_); clear hK hG17
       refine wpS1 18 hG18 ?_; intro hG19; clear hG18
       refine wpS1 19 hG19 ?_; intro hG20; clear hG19
       refine wpS1 20 hG20 ?_; intro hG21; clear hG20
       refine wpAnyG_ready (rs := [21]) (by kernel_rfl) (by simp) (AllG.cons rfl hG21 (fun K hK => ?_) AllG.nil)
       (go_simp)
       refine hK.out _ _ (Or.inl rfl) (fun hG22 => wpN ?_); clear hK hG21
       refine wpAnyG_ready (rs := [22]) (by kernel_rfl) (by simp) (AllG.cons rfl hG22 (fun K hK => ?_) AllG.nil)
       (go_simp)
       refine hK.out _ _ (Or.inl rfl) (fun hG23 => wpN ?_); clear hK hG22
       refine wpS1 23 hG23 ?_; intro hG24; clear hG23
       refine wpAnyG_done (by kernel_rfl) ?_ _; clear hG24
       rotate_left
       (go_simp)
       refine hK.out _ _ (Or.inr (cif (by exact bel))) (fun hG18 => wpN ?_); clear hK hG17
       refine wpAnyG_ready (rs := [17]) (by kernel_rfl) (by simp) (AllG.cons rfl hG18 (fun K hK => ?_) AllG.nil)
       (go_simp; go_at_call 114; refine (K5.out _).mono ?_; rintro e w4 ⟨rfl, hb4⟩; have q0 : w4.cell? ⟨wr.heap.size, 0, none⟩ = some (.int .i64 0) := (hb4.cell (p := ⟨wr.heap.size, 0, none⟩) (by simp)).trans (by simp); have q1 : w4.cell? ⟨wr.heap.size, 1, none⟩ = some (.int .i64 0) := (hb4.cell (p := ⟨wr.heap.size, 1, none⟩) (by simp)).trans (by simp); have q2 : w4.frozen? ⟨wr.heap.size, 0, none⟩ = false := (hb4.frozen (p := ⟨wr.heap.size, 0, none⟩) (by simp)).trans (by simp); have q3 : w4.frozen? ⟨wr.heap.size, 1, none⟩ = false := (hb4.frozen (p := ⟨wr.heap.size, 1, none⟩) (by simp)).trans (by simp); have q4 : wr.heap.size < w4.heap.size := (by have := hb4.size; simp at this; omega))
       refine hK.out _ _ (Or.inl rfl) (fun hG19 => wpN ?_); clear hK hG18
       refine wpS1 18 hG19 ?_; intro hG20; clear hG19
       refine wpS1 19 hG20 ?_; intro hG21; clear hG20
       refine wpS1 20 hG21 ?_; intro hG22; clear hG21
       refine wpAnyG_ready (rs := [22]) (by kernel_rfl) (by simp) (AllG.cons rfl hG22 (fun K hK => ?_) AllG.nil)
       (go_simp)
       refine hK.out _ _ (Or.inl rfl) (fun hG23 => wpN ?_); clear hK hG22
       refine wpS1 23 hG23 ?_; intro hG24; clear hG23
       refine wpAnyG_done (by kernel_rfl) ?_ _; clear hG24
       rotate_left
       ·have hb5 : Below wr.heap.size wr (w4.alloc (.cells #[.int .i64 ρ.num, .int .i64 ρ.den] 45)) := ((Below.refl _ _).drew.trans hb4).alloc (by have := hb4.size; exact this) _
        have s0 : (w4.alloc (.cells #[.int .i64 ρ.num, .int .i64 ρ.den] 45)).cell? ⟨w4.heap.size, 0, none⟩ = some (.int .i64 ρ.num) := by simp
        have s1 : (w4.alloc (.cells #[.int .i64 ρ.num, .int .i64 ρ.den] 45)).cell? ⟨w4.heap.size, 1, none⟩ = some (.int .i64 ρ.den) := by simp
        have sY : w4.heap.size < (w4.alloc (.cells #[.int .i64 ρ.num, .int .i64 ρ.den] 45)).heap.size := by simp
        have sZ : wr.heap.size ≤ w4.heap.size := hb4.size
        clear hb4
        obtain ⟨w5, hw5⟩ : ∃ w5, w5 = w4.alloc (.cells #[.int .i64 ρ.num, .int .i64 ρ.den] 45) := ⟨_, rfl⟩
        obtain ⟨Y, hY⟩ : ∃ Y, Y = w4.heap.size := ⟨_, rfl⟩
        rw [← hw5, ← hY] at s0 s1 sY; rw [← hw5] at hb5; rw [← hY] at sZ; rw [← hw5, ← hY]; clear hw5 hY
        have hbA5 := hbel2.trans (hb5.mono hbz2)
        have hF5 := Lib.hid (hFls.out.up hb5)
        have u0 := FrRow.num hF5.out (j := 0) (by omega)
        have u1 := FrRow.den hF5.out (j := 0) (by omega)
        simp only [Nat.zero_mul, Nat.zero_add] at u0 u1
        have u4 := FrRow.lt hF5.out
        have z35 := hbA5.size
        go_wp2_with fail
        refine (KC.out _).mono ?_
        rintro e w6 ⟨rfl, hb6⟩
        have hbA6 := hbA5.trans (hb6.mono z35)
        have x0 := (hb6.cell (p := ⟨Y, 0, none⟩) sY).trans s0
        have x1 := (hb6.cell (p := ⟨Y, 1, none⟩) sY).trans s1
        have sY6 : Y < w6.heap.size := Nat.lt_of_lt_of_le sY hb6.size
        have hF6 := Lib.hid (FrRow.up hF5.out hb6)
        have v0 := FrRow.num hF6.out (j := 0) (by omega)
        have v1 := FrRow.den hF6.out (j := 0) (by omega)
        simp only [Nat.zero_mul, Nat.zero_add] at v0 v1
        have v2 := FrRow.frozen hF6.out 0
        have v3 := FrRow.frozen hF6.out 1
        have v4 := FrRow.lt hF6.out
        have hT6 := Lib.hid (HT.out.up (hb13.trans (hbA6.mono z13)))
        have c4' := hT6.out.c4
        rw [e4] at c4'
        have cX6 := hT6.out.lt
        have cb6 := (hT6.out.basic hm0).lt
        have n0' := (hT6.out.basic hm0).cell Ham.out
        try have n1' := (hT6.out.basic hm0).cell Hrm.out
        clear hb5 hb6 s0 s1 u0 u1 sY
        go_wp2_with fail
        go_quiet (fail)
        go_wp2
        go_roundw
        case rel => exact ⟨p + 1, ls, by omega, by go_num, hF6, hRls, Lib.hid (.inr ⟨r, rfl, HN.out, Hls.out⟩), Lib.hid (fun i hi => by rw [Htk.out] at hi; rcases List.mem_append.1 hi with h | h; exact hok.out i h; (simp at h; subst h; exact Hρ.out ▸ Hpr.out)), (below_dN hbA6 _)⟩
        case measure => simp [intOf]; omega
       ·have hb5 : Below wr.heap.size wr ((w4.setCell ⟨wr.heap.size, 0, none⟩ (.int .i64 ρ.num)).setCell ⟨wr.heap.size, 1, none⟩ (.int .i64 ρ.den)) := ((((Below.refl _ _).drew.alloc (Nat.le_refl _) _).trans (hb4.mono (by simp))).setCell (p := ⟨wr.heap.size, 0, none⟩) (Nat.le_refl _) _).setCell (p := ⟨wr.heap.size, 1, none⟩) (Nat.le_refl _) _
        have s0 : ((w4.setCell ⟨wr.heap.size, 0, none⟩ (.int .i64 ρ.num)).setCell ⟨wr.heap.size, 1, none⟩ (.int .i64 ρ.den)).cell? ⟨wr.heap.size, 0, none⟩ = some (.int .i64 ρ.num) := by rw [World.cell?_setCell_other _ _ _ _ (by simp)]; exact World.cell?_setCell_same _ _ _ q0
        have s1 : ((w4.setCell ⟨wr.heap.size, 0, none⟩ (.int .i64 ρ.num)).setCell ⟨wr.heap.size, 1, none⟩ (.int .i64 ρ.den)).cell? ⟨wr.heap.size, 1, none⟩ = some (.int .i64 ρ.den) := World.cell?_setCell_same _ _ _ ((World.cell?_setCell_other _ _ _ _ (by simp)).trans q1)
        have sY : wr.heap.size < ((w4.setCell ⟨wr.heap.size, 0, none⟩ (.int .i64 ρ.num)).setCell ⟨wr.heap.size, 1, none⟩ (.int .i64 ρ.den)).heap.size := by simpa [World.setCell] using q4
        have sZ : wr.heap.size ≤ wr.heap.size := Nat.le_refl _
        clear hb4 q0 q1 q2 q3 q4
        obtain ⟨w5, hw5⟩ : ∃ w5, w5 = ((w4.setCell ⟨wr.heap.size, 0, none⟩ (.int .i64 ρ.num)).setCell ⟨wr.heap.size, 1, none⟩ (.int .i64 ρ.den)) := ⟨_, rfl⟩
        rw [← hw5] at hb5 s0 s1 sY; rw [← hw5]; clear hw5
        have hbA5 := hbel2.trans (hb5.mono hbz2)
        have hF5 := Lib.hid (hFls.out.up hb5)
        have u0 := FrRow.num hF5.out (j := 0) (by omega)
        have u1 := FrRow.den hF5.out (j := 0) (by omega)
        simp only [Nat.zero_mul, Nat.zero_add] at u0 u1
        have u4 := FrRow.lt hF5.out
        have z35 := hbA5.size
        go_wp2_with fail
        refine (KC.out _).mono ?_
        rintro e w6 ⟨rfl, hb6⟩
        have hbA6 := hbA5.trans (hb6.mono z35)
        have x0 := (hb6.cell (p := ⟨wr.heap.size, 0, none⟩) sY).trans s0
        have x1 := (hb6.cell (p := ⟨wr.heap.size, 1, none⟩) sY).trans s1
        have sY6 : wr.heap.size < w6.heap.size := Nat.lt_of_lt_of_le sY hb6.size
        have hF6 := Lib.hid (FrRow.up hF5.out hb6)
        have v0 := FrRow.num hF6.out (j := 0) (by omega)
        have v1 := FrRow.den hF6.out (j := 0) (by omega)
        simp only [Nat.zero_mul, Nat.zero_add] at v0 v1
        have v2 := FrRow.frozen hF6.out 0
        have v3 := FrRow.frozen hF6.out 1
        have v4 := FrRow.lt hF6.out
        have hT6 := Lib.hid (HT.out.up (hb13.trans (hbA6.mono z13)))
        have c4' := hT6.out.c4
        rw [e4] at c4'
        have cX6 := hT6.out.lt
        have cb6 := (hT6.out.basic hm0).lt
        have n0' := (hT6.out.basic hm0).cell Ham.out
        try have n1' := (hT6.out.basic hm0).cell Hrm.out
        clear hb5 hb6 s0 s1 u0 u1 sY
        go_wp2_with fail
        go_quiet (fail)
        go_wp2
        go_roundw
        case rel => exact ⟨p + 1, ls, by omega, by go_num, hF6, hRls, Lib.hid (.inr ⟨r, rfl, HN.out, Hls.out⟩), Lib.hid (fun i hi => by rw [Htk.out] at hi; rcases List.mem_append.1 hi with h | h; exact hok.out i h; (simp at h; subst h; exact Hρ.out ▸ Hpr.out)), (below_dN hbA6 _)⟩
        case measure => simp [intOf]; omega
      rw [if_neg h2] at kc
      have KC := Lib.hid kc
      have heq : ρ = ls := by grind
      by_cases h3 : T.B a < T.B r
      ·have h4 : decide ((T.B a : Int) < (T.B r : Int)) = true := decide_eq_true (by omega)
       have HN := Lib.hid (show Bst T k (l.take (p + 1)) a from by
        rw [Htk.out]
        refine ⟨by simp, fun i hi => ?_⟩
        rcases List.mem_append.1 hi with h | h
        ·rcases Hbst.out.2 i h with h2 | h2
         ·refine .inl ?_; rw [Hρ.out, heq, Hls.out]; exact h2
         ·refine .inr ⟨?_, ?_⟩
          ·rw [Hρ.out, heq, Hls.out]; exact h2.1
          ·omega
        ·simp at h; subst h; exact .inr ⟨rfl, Nat.le_refl _⟩)
       have H3 := Lib.hid h3
       clear kc h1 h2 h3 heq
       go_wp2_with fail
       refine wp_region_G 17 (fun w' => ∀ b o, w'.cell? ⟨b, o, none⟩ = if b < wr.heap.size then wr.cell? ⟨b, o, none⟩ else hidC w' b o) (by kernel_rfl) (cif (B := wr.heap.size) (W := wr) (Below.refl _ _).drew) ?_
       intro hG0
       refine wpS1 0 hG0 ?_; intro hG1; clear hG0
       refine wpS1 1 hG1 ?_; intro hG2; clear hG1
       refine wpS1 2 hG2 ?_; intro hG3; clear hG2
       refine wpS2 3 hG3 ?_; intro hG4; clear hG3
       refine wpS1 4 hG4 ?_; intro hG5; clear hG4
       refine wpS1 5 hG5 ?_; intro hG6; clear hG5
       refine wpS2 6 hG6 ?_; intro hG7; clear hG6
       refine wpS1 7 hG7 ?_; intro hG8; clear hG7
       refine wpS1 8 hG8 ?_; intro hG9; clear hG8
       refine wpS1 9 hG9 ?_; intro hG10; clear hG9
       refine wpS2 10 hG10 ?_; intro hG11; clear hG10
       refine wpS1 11 hG11 ?_; intro hG12; clear hG11
       refine wpS1 12 hG12 ?_; intro hG13; clear hG12
       refine wpS2 13 hG13 ?_; intro hG14; clear hG13
       refine wpS1 14 hG14 ?_; intro hG15; clear hG14
       refine wpS1 15 hG15 ?_; intro hG16; clear hG15
       refine wpS2 16 hG16 ?_; intro hG17; clear hG16
       refine wpAnyG_ready (rs := [17, 21]) (by kernel_rfl) (by simp) (AllG.cons rfl hG17 (fun K hK => ?_) (AllG.cons rfl hG17 (fun K hK => ?_) AllG.nil))
       (go_simp; go_at_call 114; refine (K5.out _).mono ?_; rintro e w4 ⟨rfl, hb4⟩)
       refine hK.out _ _ (Or.inl rfl) (fun hG18 => wpN ?_); clear hK hG17
       refine wpS1 18 hG18 ?_; intro hG19; clear hG18
       refine wpS1 19 hG19 ?_; intro hG20; clear hG19
       refine wpS1 20 hG20 ?_; intro hG21; clear hG20
       refine wpAnyG_ready (rs := [21]) (by kernel_rfl) (by simp) (AllG.cons rfl hG21 (fun K hK => ?_) AllG.nil)
       (go_simp)
       refine hK.out _ _ (Or.inl rfl) (fun hG22 => wpN ?_); clear hK hG21
       refine wpAnyG_ready (rs := [22]) (by kernel_rfl) (by simp) (AllG.cons rfl hG22 (fun K hK => ?_) AllG.nil)
       (go_simp)
       refine hK.out _ _ (Or.inl rfl) (fun hG23 => wpN ?_); clear hK hG22
       refine wpS1 23 hG23 ?_; intro hG24; clear hG23
       refine wpAnyG_done (by kernel_rfl) ?_ _; clear hG24
       rotate_left
       (go_simp)
       refine hK.out _ _ (Or.inr (cif (by exact bel))) (fun hG18 => wpN ?_); clear hK hG17
       refine wpAnyG_ready (rs := [17]) (by kernel_rfl) (by simp) (AllG.cons rfl hG18 (fun K hK => ?_) AllG.nil)
       (go_simp; go_at_call 114; refine (K5.out _).mono ?_; rintro e w4 ⟨rfl, hb4⟩; have q0 : w4.cell? ⟨wr.heap.size, 0, none⟩ = some (.int .i64 0) := (hb4.cell (p := ⟨wr.heap.size, 0, none⟩) (by simp)).trans (by simp); have q1 : w4.cell? ⟨wr.heap.size, 1, none⟩ = some (.int .i64 0) := (hb4.cell (p := ⟨wr.heap.size, 1, none⟩) (by simp)).trans (by simp); have q2 : w4.frozen? ⟨wr.heap.size, 0, none⟩ = false := (hb4.frozen (p := ⟨wr.heap.size, 0, none⟩) (by simp)).trans (by simp); have q3 : w4.frozen? ⟨wr.heap.size, 1, none⟩ = false := (hb4.frozen (p := ⟨wr.heap.size, 1, none⟩) (by simp)).trans (by simp); have q4 : wr.heap.size < w4.heap.size := (by have := hb4.size; simp at this; omega))
       refine hK.out _ _ (Or.inl rfl) (fun hG19 => wpN ?_); clear hK hG18
       refine wpS1 18 hG19 ?_; intro hG20; clear hG19
       refine wpS1 19 hG20 ?_; intro hG21; clear hG20
       refine wpS1 20 hG21 ?_; intro hG22; clear hG21
       refine wpAnyG_ready (rs := [22]) (by kernel_rfl) (by simp) (AllG.cons rfl hG22 (fun K hK => ?_) AllG.nil)
       (go_simp)
       refine hK.out _ _ (Or.inl rfl) (fun hG23 => wpN ?_); clear hK hG22
       refine wpS1 23 hG23 ?_; intro hG24; clear hG23
       refine wpAnyG_done (by kernel_rfl) ?_ _; clear hG24
       rotate_left
       ·have hb5 : Below wr.heap.size wr (w4.alloc (.cells #[.int .i64 ρ.num, .int .i64 ρ.den] 45)) := ((Below.refl _ _).drew.trans hb4).alloc (by have := hb4.size; exact this) _
        have s0 : (w4.alloc (.cells #[.int .i64 ρ.num, .int .i64 ρ.den] 45)).cell? ⟨w4.heap.size, 0, none⟩ = some (.int .i64 ρ.num) := by simp
        have s1 : (w4.alloc (.cells #[.int .i64 ρ.num, .int .i64 ρ.den] 45)).cell? ⟨w4.heap.size, 1, none⟩ = some (.int .i64 ρ.den) := by simp
        have sY : w4.heap.size < (w4.alloc (.cells #[.int .i64 ρ.num, .int .i64 ρ.den] 45)).heap.size := by simp
        have sZ : wr.heap.size ≤ w4.heap.size := hb4.size
        clear hb4
        obtain ⟨w5, hw5⟩ : ∃ w5, w5 = w4.alloc (.cells #[.int .i64 ρ.num, .int .i64 ρ.den] 45) := ⟨_, rfl⟩
        obtain ⟨Y, hY⟩ : ∃ Y, Y = w4.heap.size := ⟨_, rfl⟩
        rw [← hw5, ← hY] at s0 s1 sY; rw [← hw5] at hb5; rw [← hY] at sZ; rw [← hw5, ← hY]; clear hw5 hY
        have hbA5 := hbel2.trans (hb5.mono hbz2)
        have hF5 := Lib.hid (hFls.out.up hb5)
        have u0 := FrRow.num hF5.out (j := 0) (by omega)
        have u1 := FrRow.den hF5.out (j := 0) (by omega)
        simp only [Nat.zero_mul, Nat.zero_add] at u0 u1
        have u4 := FrRow.lt hF5.out
        have z35 := hbA5.size
        go_wp2_with fail
        refine (KC.out _).mono ?_
        rintro e w6 ⟨rfl, hb6⟩
        have hbA6 := hbA5.trans (hb6.mono z35)
        have x0 := (hb6.cell (p := ⟨Y, 0, none⟩) sY).trans s0
        have x1 := (hb6.cell (p := ⟨Y, 1, none⟩) sY).trans s1
        have sY6 : Y < w6.heap.size := Nat.lt_of_lt_of_le sY hb6.size
        have hF6 := Lib.hid (FrRow.up hF5.out hb6)
        have v0 := FrRow.num hF6.out (j := 0) (by omega)
        have v1 := FrRow.den hF6.out (j := 0) (by omega)
        simp only [Nat.zero_mul, Nat.zero_add] at v0 v1
        have v2 := FrRow.frozen hF6.out 0
        have v3 := FrRow.frozen hF6.out 1
        have v4 := FrRow.lt hF6.out
        have hT6 := Lib.hid (HT.out.up (hb13.trans (hbA6.mono z13)))
        have c4' := hT6.out.c4
        rw [e4] at c4'
        have cX6 := hT6.out.lt
        have cb6 := (hT6.out.basic hm0).lt
        have n0' := (hT6.out.basic hm0).cell Ham.out
        try have n1' := (hT6.out.basic hm0).cell Hrm.out
        clear hb5 hb6 s0 s1 u0 u1 sY
        go_wp2_with fail
        go_quiet (fail)
        go_wp2_with fail
        refine wp_region_G 3 (fun w' => w'.cell? ⟨Y, 0, none⟩ = some (.int .i64 ρ.num) ∧ w'.cell? ⟨Y, 1, none⟩ = some (.int .i64 ρ.den)) (by kernel_rfl) ((by constructor <;> (simp; assumption))) ?_
        intro hG0
        refine wpS1 0 hG0 ?_; intro hG1; clear hG0
        refine wpS2 1 hG1 ?_; intro hG2; clear hG1
        refine wpS1 2 hG2 ?_; intro hG3; clear hG2
        refine wpAnyG_ready (rs := [3]) (by kernel_rfl) (by simp) (AllG.cons rfl hG3 (fun K hK => ?_) AllG.nil)
        (go_simp)
        refine hK.out _ _ (Or.inl rfl) (fun hG4 => wpN ?_); clear hK hG3
        refine wpAnyG_done (by kernel_rfl) ?_ _; clear hG4
        have HFr := Lib.hid (fr_of (FrRow.up hF6.out (below_dN (Below.refl _ _) (nq + 1))) ρ)
        go_wp2
        go_roundw
        case rel => exact ⟨p + 1, ρ, by omega, by go_num, HFr, Hpr, Lib.hid (.inr ⟨a, rfl, HN.out, Hρ.out.symm⟩), Lib.hid (fun i hi => by rw [Htk.out] at hi; rcases List.mem_append.1 hi with h | h; exact hok.out i h; (simp at h; subst h; exact Hρ.out ▸ Hpr.out)), ((below_dN hbA6 _).setCell (p := ⟨w3.heap.size, 0, none⟩) (Nat.le_refl _) _).setCell (p := ⟨w3.heap.size, 1, none⟩) (Nat.le_refl _) _⟩
        case measure => simp [intOf]; omega
       ·have hb5 : Below wr.heap.size wr ((w4.setCell ⟨wr.heap.size, 0, none⟩ (.int .i64 ρ.num)).setCell ⟨wr.heap.size, 1, none⟩ (.int .i64 ρ.den)) := ((((Below.refl _ _).drew.alloc (Nat.le_refl _) _).trans (hb4.mono (by simp))).setCell (p := ⟨wr.heap.size, 0, none⟩) (Nat.le_refl _) _).setCell (p := ⟨wr.heap.size, 1, none⟩) (Nat.le_refl _) _
        have s0 : ((w4.setCell ⟨wr.heap.size, 0, none⟩ (.int .i64 ρ.num)).setCell ⟨wr.heap.size, 1, none⟩ (.int .i64 ρ.den)).cell? ⟨wr.heap.size, 0, none⟩ = some (.int .i64 ρ.num) := by rw [World.cell?_setCell_other _ _ _ _ (by simp)]; exact World.cell?_setCell_same _ _ _ q0
        have s1 : ((w4.setCell ⟨wr.heap.size, 0, none⟩ (.int .i64 ρ.num)).setCell ⟨wr.heap.size, 1, none⟩ (.int .i64 ρ.den)).cell? ⟨wr.heap.size, 1, none⟩ = some (.int .i64 ρ.den) := World.cell?_setCell_same _ _ _ ((World.cell?_setCell_other _ _ _ _ (by simp)).trans q1)
        have sY : wr.heap.size < ((w4.setCell ⟨wr.heap.size, 0, none⟩ (.int .i64 ρ.num)).setCell ⟨wr.heap.size, 1, none⟩ (.int .i64 ρ.den)).heap.size := by simpa [World.setCell] using q4
        have sZ : wr.heap.size ≤ wr.heap.size := Nat.le_refl _
        clear hb4 q0 q1 q2 q3 q4
        obtain ⟨w5, hw5⟩ : ∃ w5, w5 = ((w4.setCell ⟨wr.heap.size, 0, none⟩ (.int .i64 ρ.num)).setCell ⟨wr.heap.size, 1, none⟩ (.int .i64 ρ.den)) := ⟨_, rfl⟩
        rw [← hw5] at hb5 s0 s1 sY; rw [← hw5]; clear hw5
        have hbA5 := hbel2.trans (hb5.mono hbz2)
        have hF5 := Lib.hid (hFls.out.up hb5)
        have u0 := FrRow.num hF5.out (j := 0) (by omega)
        have u1 := FrRow.den hF5.out (j := 0) (by omega)
        simp only [Nat.zero_mul, Nat.zero_add] at u0 u1
        have u4 := FrRow.lt hF5.out
        have z35 := hbA5.size
        go_wp2_with fail
        refine (KC.out _).mono ?_
        rintro e w6 ⟨rfl, hb6⟩
        have hbA6 := hbA5.trans (hb6.mono z35)
        have x0 := (hb6.cell (p := ⟨wr.heap.size, 0, none⟩) sY).trans s0
        have x1 := (hb6.cell (p := ⟨wr.heap.size, 1, none⟩) sY).trans s1
        have sY6 : wr.heap.size < w6.heap.size := Nat.lt_of_lt_of_le sY hb6.size
        have hF6 := Lib.hid (FrRow.up hF5.out hb6)
        have v0 := FrRow.num hF6.out (j := 0) (by omega)
        have v1 := FrRow.den hF6.out (j := 0) (by omega)
        simp only [Nat.zero_mul, Nat.zero_add] at v0 v1
        have v2 := FrRow.frozen hF6.out 0
        have v3 := FrRow.frozen hF6.out 1
        have v4 := FrRow.lt hF6.out
        have hT6 := Lib.hid (HT.out.up (hb13.trans (hbA6.mono z13)))
        have c4' := hT6.out.c4
        rw [e4] at c4'
        have cX6 := hT6.out.lt
        have cb6 := (hT6.out.basic hm0).lt
        have n0' := (hT6.out.basic hm0).cell Ham.out
        try have n1' := (hT6.out.basic hm0).cell Hrm.out
        clear hb5 hb6 s0 s1 u0 u1 sY
        go_wp2_with fail
        go_quiet (fail)
        go_wp2_with fail
        refine wp_region_G 3 (fun w' => w'.cell? ⟨wr.heap.size, 0, none⟩ = some (.int .i64 ρ.num) ∧ w'.cell? ⟨wr.heap.size, 1, none⟩ = some (.int .i64 ρ.den)) (by kernel_rfl) ((by constructor <;> (simp; assumption))) ?_
        intro hG0
        refine wpS1 0 hG0 ?_; intro hG1; clear hG0
        refine wpS2 1 hG1 ?_; intro hG2; clear hG1
        refine wpS1 2 hG2 ?_; intro hG3; clear hG2
        refine wpAnyG_ready (rs := [3]) (by kernel_rfl) (by simp) (AllG.cons rfl hG3 (fun K hK => ?_) AllG.nil)
        (go_simp)
        refine hK.out _ _ (Or.inl rfl) (fun hG4 => wpN ?_); clear hK hG3
        refine wpAnyG_done (by kernel_rfl) ?_ _; clear hG4
        have HFr := Lib.hid (fr_of (FrRow.up hF6.out (below_dN (Below.refl _ _) (nq + 1))) ρ)
        go_wp2
        go_roundw
        case rel => exact ⟨p + 1, ρ, by omega, by go_num, HFr, Hpr, Lib.hid (.inr ⟨a, rfl, HN.out, Hρ.out.symm⟩), Lib.hid (fun i hi => by rw [Htk.out] at hi; rcases List.mem_append.1 hi with h | h; exact hok.out i h; (simp at h; subst h; exact Hρ.out ▸ Hpr.out)), ((below_dN hbA6 _).setCell (p := ⟨w3.heap.size, 0, none⟩) (Nat.le_refl _) _).setCell (p := ⟨w3.heap.size, 1, none⟩) (Nat.le_refl _) _⟩
        case measure => simp [intOf]; omega
      ·have h4 : decide ((T.B a : Int) < (T.B r : Int)) = false := decide_eq_false (by omega)
       have HN := Lib.hid (show Bst T k (l.take (p + 1)) r from by
        rw [Htk.out]
        refine ⟨List.mem_append_left _ Hbst.out.1, fun i hi => ?_⟩
        rcases List.mem_append.1 hi with h | h
        ·exact Hbst.out.2 i h
        ·simp at h; subst h; exact .inr ⟨by rw [Hρ.out, heq, Hls.out], by omega⟩)
       have H3 := Lib.hid h3
       clear kc h1 h2 h3 heq
       go_wp2_with fail
       refine wp_region_G 17 (fun w' => ∀ b o, w'.cell? ⟨b, o, none⟩ = if b < wr.heap.size then wr.cell? ⟨b, o, none⟩ else hidC w' b o) (by kernel_rfl) (cif (B := wr.heap.size) (W := wr) (Below.refl _ _).drew) ?_
       intro hG0
       refine wpS1 0 hG0 ?_; intro hG1; clear hG0
       refine wpS1 1 hG1 ?_; intro hG2; clear hG1
       refine wpS1 2 hG2 ?_; intro hG3; clear hG2
       refine wpS2 3 hG3 ?_; intro hG4; clear hG3
       refine wpS1 4 hG4 ?_; intro hG5; clear hG4
       refine wpS1 5 hG5 ?_; intro hG6; clear hG5
       refine wpS2 6 hG6 ?_; intro hG7; clear hG6
       refine wpS1 7 hG7 ?_; intro hG8; clear hG7
       refine wpS1 8 hG8 ?_; intro hG9; clear hG8
       refine wpS1 9 hG9 ?_; intro hG10; clear hG9
       refine wpS2 10 hG10 ?_; intro hG11; clear hG10
       refine wpS1 11 hG11 ?_; intro hG12; clear hG11
       refine wpS1 12 hG12 ?_; intro hG13; clear hG12
       refine wpS2 13 hG13 ?_; intro hG14; clear hG13
       refine wpS1 14 hG14 ?_; intro hG15; clear hG14
       refine wpS1 15 hG15 ?_; intro hG16; clear hG15
       refine wpS2 16 hG16 ?_; intro hG17; clear hG16
       refine wpAnyG_ready (rs := [17, 21]) (by kernel_rfl) (by simp) (AllG.cons rfl hG17 (fun K hK => ?_) (AllG.cons rfl hG17 (fun K hK => ?_) AllG.nil))
       (go_simp; go_at_call 114; refine (K5.out _).mono ?_; rintro e w4 ⟨rfl, hb4⟩)
       refine hK.out _ _ (Or.inl rfl) (fun hG18 => wpN ?_); clear hK hG17
       refine wpS1 18 hG18 ?_; intro hG19; clear hG18
       refine wpS1 19 hG19 ?_; intro hG20; clear hG19
       refine wpS1 20 hG20 ?_; intro hG21; clear hG20
       refine wpAnyG_ready (rs := [21]) (by kernel_rfl) (by simp) (AllG.cons rfl hG21 (fun K hK => ?_) AllG.nil)
       (go_simp)
       refine hK.out _ _ (Or.inl rfl) (fun hG22 => wpN ?_); clear hK hG21
       refine wpAnyG_ready (rs := [22]) (by kernel_rfl) (by simp) (AllG.cons rfl hG22 (fun K hK => ?_) AllG.nil)
       (go_simp)
       refine hK.out _ _ (Or.inl rfl) (fun hG23 => wpN ?_); clear hK hG22
       refine wpS1 23 hG23 ?_; intro hG24; clear hG23
       refine wpAnyG_done (by kernel_rfl) ?_ _; clear hG24
       rotate_left
       (go_simp)
       refine hK.out _ _ (Or.inr (cif (by exact bel))) (fun hG18 => wpN ?_); clear hK hG17
       refine wpAnyG_ready (rs := [17]) (by kernel_rfl) (by simp) (AllG.cons rfl hG18 (fun K hK => ?_) AllG.nil)
       (go_simp; go_at_call 114; refine (K5.out _).mono ?_; rintro e w4 ⟨rfl, hb4⟩; have q0 : w4.cell? ⟨wr.heap.size, 0, none⟩ = some (.int .i64 0) := (hb4.cell (p := ⟨wr.heap.size, 0, none⟩) (by simp)).trans (by simp); have q1 : w4.cell? ⟨wr.heap.size, 1, none⟩ = some (.int .i64 0) := (hb4.cell (p := ⟨wr.heap.size, 1, none⟩) (by simp)).trans (by simp); have q2 : w4.frozen? ⟨wr.heap.size, 0, none⟩ = false := (hb4.frozen (p := ⟨wr.heap.size, 0, none⟩) (by simp)).trans (by simp); have q3 : w4.frozen? ⟨wr.heap.size, 1, none⟩ = false := (hb4.frozen (p := ⟨wr.heap.size, 1, none⟩) (by simp)).trans (by simp); have q4 : wr.heap.size < w4.heap.size := (by have := hb4.size; simp at this; omega))
       refine hK.out _ _ (Or.inl rfl) (fun hG19 => wpN ?_); clear hK hG18
       refine wpS1 18 hG19 ?_; intro hG20; clear hG19
       refine wpS1 19 hG20 ?_; intro hG21; clear hG20
       refine wpS1 20 hG21 ?_; intro hG22; clear hG21
       refine wpAnyG_ready (rs := [22]) (by kernel_rfl) (by simp) (AllG.cons rfl hG22 (fun K hK => ?_) AllG.nil)
       (go_simp)
       refine hK.out _ _ (Or.inl rfl) (fun hG23 => wpN ?_); clear hK hG22
       refine wpS1 23 hG23 ?_; intro hG24; clear hG23
       refine wpAnyG_done (by kernel_rfl) ?_ _; clear hG24
       rotate_left
       ·have hb5 : Below wr.heap.size wr (w4.alloc (.cells #[.int .i64 ρ.num, .int .i64 ρ.den] 45)) := ((Below.refl _ _).drew.trans hb4).alloc (by have := hb4.size; exact this) _
        have s0 : (w4.alloc (.cells #[.int .i64 ρ.num, .int .i64 ρ.den] 45)).cell? ⟨w4.heap.size, 0, none⟩ = some (.int .i64 ρ.num) := by simp
        have s1 : (w4.alloc (.cells #[.int .i64 ρ.num, .int .i64 ρ.den] 45)).cell? ⟨w4.heap.size, 1, none⟩ = some (.int .i64 ρ.den) := by simp
        have sY : w4.heap.size < (w4.alloc (.cells #[.int .i64 ρ.num, .int .i64 ρ.den] 45)).heap.size := by simp
        have sZ : wr.heap.size ≤ w4.heap.size := hb4.size
        clear hb4
        obtain ⟨w5, hw5⟩ : ∃ w5, w5 = w4.alloc (.cells #[.int .i64 ρ.num, .int .i64 ρ.den] 45) := ⟨_, rfl⟩
        obtain ⟨Y, hY⟩ : ∃ Y, Y = w4.heap.size := ⟨_, rfl⟩
        rw [← hw5, ← hY] at s0 s1 sY; rw [← hw5] at hb5; rw [← hY] at sZ; rw [← hw5, ← hY]; clear hw5 hY
        have hbA5 := hbel2.trans (hb5.mono hbz2)
        have hF5 := Lib.hid (hFls.out.up hb5)
        have u0 := FrRow.num hF5.out (j := 0) (by omega)
        have u1 := FrRow.den hF5.out (j := 0) (by omega)
        simp only [Nat.zero_mul, Nat.zero_add] at u0 u1
        have u4 := FrRow.lt hF5.out
        have z35 := hbA5.size
        go_wp2_with fail
        refine (KC.out _).mono ?_
        rintro e w6 ⟨rfl, hb6⟩
        have hbA6 := hbA5.trans (hb6.mono z35)
        have x0 := (hb6.cell (p := ⟨Y, 0, none⟩) sY).trans s0
        have x1 := (hb6.cell (p := ⟨Y, 1, none⟩) sY).trans s1
        have sY6 : Y < w6.heap.size := Nat.lt_of_lt_of_le sY hb6.size
        have hF6 := Lib.hid (FrRow.up hF5.out hb6)
        have v0 := FrRow.num hF6.out (j := 0) (by omega)
        have v1 := FrRow.den hF6.out (j := 0) (by omega)
        simp only [Nat.zero_mul, Nat.zero_add] at v0 v1
        have v2 := FrRow.frozen hF6.out 0
        have v3 := FrRow.frozen hF6.out 1
        have v4 := FrRow.lt hF6.out
        have hT6 := Lib.hid (HT.out.up (hb13.trans (hbA6.mono z13)))
        have c4' := hT6.out.c4
        rw [e4] at c4'
        have cX6 := hT6.out.lt
        have cb6 := (hT6.out.basic hm0).lt
        have n0' := (hT6.out.basic hm0).cell Ham.out
        try have n1' := (hT6.out.basic hm0).cell Hrm.out
        clear hb5 hb6 s0 s1 u0 u1 sY
        go_wp2_with fail
        go_quiet (fail)
        go_wp2
        go_roundw
        case rel => exact ⟨p + 1, ls, by omega, by go_num, hF6, hRls, Lib.hid (.inr ⟨r, rfl, HN.out, Hls.out⟩), Lib.hid (fun i hi => by rw [Htk.out] at hi; rcases List.mem_append.1 hi with h | h; exact hok.out i h; (simp at h; subst h; exact Hρ.out ▸ Hpr.out)), (below_dN hbA6 _)⟩
        case measure => simp [intOf]; omega
       ·have hb5 : Below wr.heap.size wr ((w4.setCell ⟨wr.heap.size, 0, none⟩ (.int .i64 ρ.num)).setCell ⟨wr.heap.size, 1, none⟩ (.int .i64 ρ.den)) := ((((Below.refl _ _).drew.alloc (Nat.le_refl _) _).trans (hb4.mono (by simp))).setCell (p := ⟨wr.heap.size, 0, none⟩) (Nat.le_refl _) _).setCell (p := ⟨wr.heap.size, 1, none⟩) (Nat.le_refl _) _
        have s0 : ((w4.setCell ⟨wr.heap.size, 0, none⟩ (.int .i64 ρ.num)).setCell ⟨wr.heap.size, 1, none⟩ (.int .i64 ρ.den)).cell? ⟨wr.heap.size, 0, none⟩ = some (.int .i64 ρ.num) := by rw [World.cell?_setCell_other _ _ _ _ (by simp)]; exact World.cell?_setCell_same _ _ _ q0
        have s1 : ((w4.setCell ⟨wr.heap.size, 0, none⟩ (.int .i64 ρ.num)).setCell ⟨wr.heap.size, 1, none⟩ (.int .i64 ρ.den)).cell? ⟨wr.heap.size, 1, none⟩ = some (.int .i64 ρ.den) := World.cell?_setCell_same _ _ _ ((World.cell?_setCell_other _ _ _ _ (by simp)).trans q1)
        have sY : wr.heap.size < ((w4.setCell ⟨wr.heap.size, 0, none⟩ (.int .i64 ρ.num)).setCell ⟨wr.heap.size, 1, none⟩ (.int .i64 ρ.den)).heap.size := by simpa [World.setCell] using q4
        have sZ : wr.heap.size ≤ wr.heap.size := Nat.le_refl _
        clear hb4 q0 q1 q2 q3 q4
        obtain ⟨w5, hw5⟩ : ∃ w5, w5 = ((w4.setCell ⟨wr.heap.size, 0, none⟩ (.int .i64 ρ.num)).setCell ⟨wr.heap.size, 1, none⟩ (.int .i64 ρ.den)) := ⟨_, rfl⟩
        rw [← hw5] at hb5 s0 s1 sY; rw [← hw5]; clear hw5
        have hbA5 := hbel2.trans (hb5.mono hbz2)
        have hF5 := Lib.hid (hFls.out.up hb5)
        have u0 := FrRow.num hF5.out (j := 0) (by omega)
        have u1 := FrRow.den hF5.out (j := 0) (by omega)
        simp only [Nat.zero_mul, Nat.zero_add] at u0 u1
        have u4 := FrRow.lt hF5.out
        have z35 := hbA5.size
        go_wp2_with fail
        refine (KC.out _).mono ?_
        rintro e w6 ⟨rfl, hb6⟩
        have hbA6 := hbA5.trans (hb6.mono z35)
        have x0 := (hb6.cell (p := ⟨wr.heap.size, 0, none⟩) sY).trans s0
        have x1 := (hb6.cell (p := ⟨wr.heap.size, 1, none⟩) sY).trans s1
        have sY6 : wr.heap.size < w6.heap.size := Nat.lt_of_lt_of_le sY hb6.size
        have hF6 := Lib.hid (FrRow.up hF5.out hb6)
        have v0 := FrRow.num hF6.out (j := 0) (by omega)
        have v1 := FrRow.den hF6.out (j := 0) (by omega)
        simp only [Nat.zero_mul, Nat.zero_add] at v0 v1
        have v2 := FrRow.frozen hF6.out 0
        have v3 := FrRow.frozen hF6.out 1
        have v4 := FrRow.lt hF6.out
        have hT6 := Lib.hid (HT.out.up (hb13.trans (hbA6.mono z13)))
        have c4' := hT6.out.c4
        rw [e4] at c4'
        have cX6 := hT6.out.lt
        have cb6 := (hT6.out.basic hm0).lt
        have n0' := (hT6.out.basic hm0).cell Ham.out
        try have n1' := (hT6.out.basic hm0).cell Hrm.out
        clear hb5 hb6 s0 s1 u0 u1 sY
        go_wp2_with fail
        go_quiet (fail)
        go_wp2
        go_roundw
        case rel => exact ⟨p + 1, ls, by omega, by go_num, hF6, hRls, Lib.hid (.inr ⟨r, rfl, HN.out, Hls.out⟩), Lib.hid (fun i hi => by rw [Htk.out] at hi; rcases List.mem_append.1 hi with h | h; exact hok.out i h; (simp at h; subst h; exact Hρ.out ▸ Hpr.out)), (below_dN hbA6 _)⟩
        case measure => simp [intOf]; omega
     ·obtain rfl : p = lI.length := by omega
      have hll : l.take lI.length = l := List.take_of_length_le (by have := HL2.out; omega)
      rcases hst.out with ⟨hp0, rfl⟩ | ⟨r, rfl, hbst, hls⟩
      ·exact absurd hp0 (by omega)
      rw [hll] at hbst hok
      have hrl : r ∈ cnd T k m := by rw [Hl.out]; exact hbst.1
      obtain ⟨hrm, hrp⟩ := mem_cnd.1 hrl
      have HLv : Hid (LvP m T k (r : Int) 0) := Lib.hid (.inr (.inl ⟨r, rfl, rfl, ⟨hrm, hrp, fun i hi hp => hbst.2 i (by rw [← Hl.out]; exact mem_cnd.2 ⟨hi, hp⟩)⟩, fun i j hi hj hne h1 h2 => hok.out i (by rw [← Hl.out]; exact mem_cnd.2 ⟨hi, h1⟩)⟩))
      clear hbst hls hrl hrm hrp hll
      go_wp2
      refine bodyPost_ret (v := .tuple #[.int .i64 (r : Int), .nilIface]) (by simp [results, Tryz.results99, go_sem]) rfl ⟨⟨_, 0, rfl, HLv.out⟩, hb1r⟩

end Go.Proofs.YtaampjhdgeoicaaGreat

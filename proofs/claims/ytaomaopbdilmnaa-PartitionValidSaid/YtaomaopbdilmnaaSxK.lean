/- The law SimplexOptimal. -/
import Derived.Test.YtaomaopbdilmnaaSxJ
namespace Go.Proofs.Ytaomaopbdilmnaa
set_option linter.unusedSimpArgs false
set_option linter.unusedVariables false
open Go Go.RowKit
set_option linter.unusedVariables false

/-- The box of a program. -/
structure PrgAt (w : World) (P : Nat) (v0 v1 v2 : Value) : Prop where
  lt : P < w.heap.size
  c0 : w.cell? ⟨P, 0, none⟩ = some v0
  c1 : w.cell? ⟨P, 1, none⟩ = some v1
  c2 : w.cell? ⟨P, 2, none⟩ = some v2
theorem PrgAt.up {w w' : World} {P : Nat} {v0 v1 v2 : Value} (h : PrgAt w P v0 v1 v2) (hb : Below w.heap.size w w') : PrgAt w' P v0 v1 v2 :=
  ⟨Nat.lt_of_lt_of_le h.lt hb.size, (hb.cell (p := ⟨P, 0, none⟩) h.lt).trans h.c0, (hb.cell (p := ⟨P, 1, none⟩) h.lt).trans h.c1, (hb.cell (p := ⟨P, 2, none⟩) h.lt).trans h.c2⟩
theorem PrgAt.new (w : World) (v0 v1 v2 : Value) (T : TypeId) : PrgAt (w.alloc (.cells #[v0, v1, v2] T)) w.heap.size v0 v1 v2 := by constructor <;> first | (simp; done) | (simp; omega)
theorem fr_src {w : World} {b N : Nat} {f : Nat → Rat} (h : FrRow w b N f) (hN : N ≤ 1000) : SrcAt w (some ⟨b, 0, none⟩) N N 2 (fc (frq f N)) where
  none := fun e => nomatch e
  len := by rw [fc_len, frq_len]
  cells := fun ad e => by cases e; exact fracs_cells (fr_facts h hN)
  one := fc_one
theorem frq_ok {f : Nat → Rat} {N : Nat} (h : ∀ j, j < N → Rep (f j) ∧ 0 ≤ f j) : ∀ k, k < (frq f N).length → prB (fv (frq f N) k) (fx (frq f N) k) = true ∧ 0 ≤ fv (frq f N) k := fun k hk => by
  rw [frq_len] at hk
  obtain ⟨h1, h2⟩ := frq_at (f := f) hk
  rw [h1, h2]
  exact ⟨rep_pr (h k hk).1, Rat.num_nonneg.2 (h k hk).2⟩
theorem app_ok {a b : List (Int × Int)} {Q : Int → Int → Prop} (ha : ∀ k, k < a.length → Q (fv a k) (fx a k)) (hb : ∀ k, k < b.length → Q (fv b k) (fx b k)) : ∀ k, k < (a ++ b).length → Q (fv (a ++ b) k) (fx (a ++ b) k) := fun k hk => by
  unfold fv fx at *
  by_cases h : k < a.length
  · have := ha k h
    simp only [List.getD, List.getElem?_append_left h]
    exact this
  · rw [List.length_append] at hk
    have := hb (k - a.length) (by omega)
    simp only [List.getD, List.getElem?_append_right (show a.length ≤ k by omega)]
    exact this

theorem own_made1 (w : World) (o : Obj) : ((w.alloc o).alloc (.cells #[] 29)).ownsRow (w.heap.size + 1) 29 2 (.slice (some ⟨w.heap.size + 1, 0, none⟩) 0 0) 0 [] := by
  have := own_built (B := w.heap.size + 1) (e := 29) (s := 2) (w.alloc o) #[] 0 (by simp) (by simp [maxLen]) rfl
  rw [World.size_alloc] at this
  exact this
theorem Own2.grown {w w' : World} {b B s k : Nat} {n d : Int} {e : TypeId} {v : Value} {xs : List Value} (h : Own2 w b n d) (ho : w.ownsRow B e s v k xs) (hg : w.grownBy w' v.ownBlock) (hb : b < B) : Own2 w' b n d := by
  have he : w'.heap[b]? = w.heap[b]? := hg.block b h.lt fun e => by have := (ho.lt b e.symm).1; omega
  exact ⟨Nat.lt_of_lt_of_le h.lt hg.size, (World.cell?_of_block (a := ⟨b, 0, none⟩) he).trans h.c0, (World.cell?_of_block (a := ⟨b, 1, none⟩) he).trans h.c1, (World.frozen?_of_block (a := ⟨b, 0, none⟩) he).trans h.f0, (World.frozen?_of_block (a := ⟨b, 1, none⟩) he).trans h.f1⟩

theorem sol_row {c : List (Int × Int)} {R : List (List (Int × Int))} {b : List (Int × Int)} {T : TB} {lx : List (Int × Int)} (hs : SolIs c.length R.length (fr37 R) (rl b) (rl c) T) (hz : c.length ≤ 24 ∧ R.length ≤ 24 ∧ R.length = b.length ∧ (∀ i, i < R.length → (mr R i).length = c.length) ∧ prL c = true ∧ prL b = true ∧ (∀ i, i < R.length → prL (mr R i) = true) ∧ ∀ i, i < b.length → 0 ≤ fv b i) (hx : NumsOf lx c.length (xB R.length T)) {k : Nat} (hk : k < R.length) :
    dotF (mr R k) lx = (0, 0, 5) ∨ ∃ z : Rat, (cmpF z.num z.den (fv b k) (fx b k) ≤ 0) ∧ dotF (mr R k) lx = (z.num, (z.den : Int), 0) := by
  have hp := hz.2.2.2.2.2.2.1 k hk
  have hl := hz.2.2.2.1 k hk
  have hN : NumsOf (mr R k) c.length (rl (mr R k)) := ⟨hl, fun j hj => rl_num (prL_iff.1 hp j (by omega))⟩
  rcases dot_rat hN hx (fun j hj => rl_rep (prL_iff.1 hp j (by omega))) (fun j _ => hs.xr j) with h | ⟨h, hr⟩
  · exact .inl h
  · refine .inr ⟨_, ?_, h⟩
    have h1 := hs.pf.2 k hk
    have hb := prL_iff.1 hz.2.2.2.2.2.1 k (by have := hz.2.2.1; omega)
    obtain ⟨e1, e2⟩ := rl_num hb
    have hle : (sg c.length fun j => rl (mr R k) j * xB R.length T j) ≤ rl b k := h1
    rw [← e1, ← e2, cmp_rat hr (rl_rep hb)]
    split
    · decide
    · split
      · rename_i h3 h4; grind
      · decide
/-- A column. -/
def cln (R : List (List (Int × Int))) (j k : Nat) : List (Int × Int) := (List.range k).map fun i => (fv (mr R i) j, fx (mr R i) j)
theorem cln_len (R : List (List (Int × Int))) (j k : Nat) : (cln R j k).length = k := by unfold cln; simp
theorem cln_succ (R : List (List (Int × Int))) (j k : Nat) : cln R j (k + 1) = cln R j k ++ [(fv (mr R k) j, fx (mr R k) j)] := by unfold cln; rw [List.range_succ, List.map_append]; rfl
theorem sol_col {c : List (Int × Int)} {R : List (List (Int × Int))} {b : List (Int × Int)} {T : TB} {ly : List (Int × Int)} (hs : SolIs c.length R.length (fr37 R) (rl b) (rl c) T) (hz : c.length ≤ 24 ∧ R.length ≤ 24 ∧ R.length = b.length ∧ (∀ i, i < R.length → (mr R i).length = c.length) ∧ prL c = true ∧ prL b = true ∧ (∀ i, i < R.length → prL (mr R i) = true) ∧ ∀ i, i < b.length → 0 ≤ fv b i) (hy : NumsOf ly R.length (fun i => -T.c (c.length + i))) {j : Nat} (hj : j < c.length) :
    dotF (cln R j R.length) ly = (0, 0, 5) ∨ ∃ z : Rat, (0 ≤ cmpF z.num z.den (fv c j) (fx c j)) ∧ dotF (cln R j R.length) ly = (z.num, (z.den : Int), 0) := by
  have hp := fun i hi => prL_iff.1 (hz.2.2.2.2.2.2.1 i hi) j (by rw [hz.2.2.2.1 i hi]; exact hj)
  have hN : NumsOf (cln R j R.length) R.length (fun i => fr37 R i j) := ⟨cln_len _ _ _, fun i hi => by
    have e1 : fv (cln R j R.length) i = fv (mr R i) j := by unfold cln; simp [fv, List.getD, hi]
    have e2 : fx (cln R j R.length) i = fx (mr R i) j := by unfold cln; simp [fx, List.getD, hi]
    rw [e1, e2]
    exact rl_num (hp i hi)⟩
  rcases dot_rat hN hy (fun i hi => rl_rep (hp i hi)) (fun i hi => hs.yr hi) with h | ⟨h, hr⟩
  · exact .inl h
  · refine .inr ⟨_, ?_, h⟩
    have h1 := hs.df.2 j hj
    have hb := prL_iff.1 hz.2.2.2.2.1 j hj
    obtain ⟨e1, e2⟩ := rl_num hb
    have hle : rl c j ≤ (sg R.length fun i => fr37 R i j * -T.c (c.length + i)) := h1
    rw [← e1, ← e2, cmp_rat hr (rl_rep hb)]
    split
    · rename_i h3; grind
    · split <;> decide
set_option maxRecDepth 100000 in
set_option maxHeartbeats 8000000 in
theorem simplexOptimal_any (c : List (Int × Int)) (R : List (List (Int × Int))) (b : List (Int × Int)) (Ac AR Ab : Option Addr) (cc cR cb : Nat) (w : World) (hc : FactsAt w w.heap.size Ac c) (hR : MxAt w AR R) (hb : FactsAt w w.heap.size Ab b) :
    Calls Try.prog 7 #[.agg #[.slice Ac c.length cc, .slice AR R.length cR, .slice Ab b.length cb]] w fun e w' => e = .returned (.bool true) ∧ Below w.heap.size w w' := by
  have KA := Lib.hid awake37_any
  have KL := Lib.hid (fun wx (h : Below w.heap.size w wx) => large_any c R b Ac AR Ab cc cR cb wx (factsAt_up hc h) (hR.up h) (factsAt_up hb h))
  have KS := Lib.hid (fun wx (h : Below w.heap.size w wx) => solve_any c R b Ac AR Ab cc cR cb wx (factsAt_up hc h) (hR.up h) (factsAt_up hb h))
  have lc := hc.len
  have lR := hR.1
  have lb := hb.len
  have Hc := Lib.hid hc
  have HR := Lib.hid hR
  have Hb := Lib.hid hb
  clear hc hR hb
  go_enter Try.func7, Try.ntmps7
  go_wp2_with fail
  refine (KA.out _).mono ?_
  rintro e w3 ⟨rfl, hb3⟩
  have hP3 := (PrgAt.new w (.slice Ac c.length cc) (.slice AR R.length cR) (.slice Ab b.length cb) 25).up hb3
  have B3 : Below w.heap.size w w3 := ((Below.refl _ _).alloc (Nat.le_refl _) _).trans (hb3.mono (by simp))
  have z3 := B3.size
  obtain ⟨P, hPP⟩ : ∃ P, P = w.heap.size := ⟨_, rfl⟩
  rw [← hPP] at hP3
  have p0 := hP3.lt
  have p1 := hP3.c0
  have p2 := hP3.c1
  have p3 := hP3.c2
  clear hb3
  rw [← hPP]
  clear hPP
  go_wp2_with fail
  refine (KL.out w3 B3).mono ?_
  rintro e w4 ⟨⟨v, rfl, hv⟩, hb4⟩
  have hP4 := hP3.up hb4
  have B4 := B3.trans (hb4.mono z3)
  have z4 := B4.size
  clear p0 p1 p2 p3 hP3 hb4 B3 z3
  have p0 := hP4.lt
  have p1 := hP4.c0
  have p2 := hP4.c1
  have p3 := hP4.c2
  cases v
  case true =>
    clear hv
    go_wp2_with fail
    refine (KA.out _).mono ?_
    rintro e w5 ⟨rfl, hb5⟩
    have B5 := B4.trans (hb5.mono z4)
    go_wp2
    go_ret
    exact ⟨rfl, B5⟩
  case false =>
    clear hv
    go_wp2_with fail
    refine (KS.out w4 B4).mono ?_
    rintro e w5 ⟨hs, hb5⟩
    have hP5 := hP4.up hb5
    have B5 := B4.trans (hb5.mono z4)
    have z5 := B5.size
    clear p0 p1 p2 p3 hP4 hb5 B4 z4
    have p0 := hP5.lt
    have p1 := hP5.c0
    have p2 := hP5.c1
    have p3 := hP5.c2
    rcases hs with ⟨hne, he⟩ | ⟨h0, ⟨cd, hf, he⟩ | ⟨T, hf, bx, bY, he, hx, hy⟩⟩
    · obtain rfl := he
      clear hne
      go_wp2
      go_ret
      exact ⟨rfl, by repeat (first | exact Below.refl _ _ | refine below_dN ?_ _ | refine Below.drew ?_ | refine Below.alloc ?_ (by first | omega | (simp; done) | (simp; omega)) _ | refine Below.setCell ?_ (by first | omega | (simp; done) | (simp; omega)) _ | refine below_step (by assumption) (by first | omega | (simp; done) | (simp; omega)) ?_)⟩
    · obtain rfl := he
      clear hf h0
      go_wp2
      go_ret
      exact ⟨rfl, by repeat (first | exact Below.refl _ _ | refine below_dN ?_ _ | refine Below.drew ?_ | refine Below.alloc ?_ (by first | omega | (simp; done) | (simp; omega)) _ | refine Below.setCell ?_ (by first | omega | (simp; done) | (simp; omega)) _ | refine below_step (by assumption) (by first | omega | (simp; done) | (simp; omega)) ?_)⟩
    · subst he
      have HS := Lib.hid (fin_sol h0 hf)
      have hz := chk_zero h0
      have n24 := hz.1
      have m24 := hz.2.1
      have HZ := Lib.hid hz
      have HX := Lib.hid hx
      have HY := Lib.hid hy
      clear h0 hf hz hx hy
      obtain ⟨inf, hi, iz0, iz1, iz2⟩ := info_parts infoC
      obtain ⟨lx, hlx⟩ : ∃ lx, lx = frq (xB R.length T) c.length := ⟨_, rfl⟩
      obtain ⟨ly, hly⟩ : ∃ ly, ly = frq (fun i => -T.c (c.length + i)) R.length := ⟨_, rfl⟩
      have HLX := Lib.hid hlx
      have HLY := Lib.hid hly
      have Hll := Lib.hid (show lx.length = c.length ∧ ly.length = R.length by rw [hlx, hly, frq_len, frq_len]; exact ⟨rfl, rfl⟩)
      have SX := Lib.hid (fun wx (h : Below w5.heap.size w5 wx) => hlx ▸ fr_src (HX.out.up h) (by omega))
      have SY := Lib.hid (fun wx (h : Below w5.heap.size w5 wx) => hly ▸ fr_src (HY.out.up h) (by omega))
      have HQ := Lib.hid (show ∀ k, k < (lx ++ ly).length → prB (fv (lx ++ ly) k) (fx (lx ++ ly) k) = true ∧ 0 ≤ fv (lx ++ ly) k from app_ok (Q := fun p q => prB p q = true ∧ 0 ≤ p) (hlx ▸ frq_ok fun j hj => ⟨HS.out.xr j, HS.out.pf.1 j hj⟩) (hly ▸ frq_ok fun j hj => ⟨HS.out.yr hj, HS.out.df.1 j hj⟩))
      obtain ⟨LL, hLL⟩ : ∃ LL, LL = lx ++ ly := ⟨_, rfl⟩
      rw [← hLL] at HQ
      have HLL := Lib.hid hLL
      have lLL : LL.length ≤ 100 := by rw [hLL, List.length_append, Hll.out.1, Hll.out.2]; omega
      clear hlx hly hLL
      go_wp2_with (first | (at_builtin; refine wpList_append_src rfl _ _ 22 rfl (w5.heap.size + 1) 29 inf (.agg #[.int .i64 0, .int .i64 0]) 2 16 undC hi iz0 iz1 iz2 rfl (by decide) (.slice (some ⟨w5.heap.size + 1, 0, none⟩) 0 0) 0 [] rfl (own_made1 w5 _) (some ⟨bx, 0, none⟩) c.length c.length (fc lx) rfl (SX.out _ (by repeat (first | exact Below.refl _ _ | refine below_dN ?_ _ | refine Below.drew ?_ | refine Below.alloc ?_ (by first | omega | (simp; done) | (simp; omega)) _ | refine Below.setCell ?_ (by first | omega | (simp; done) | (simp; omega)) _ | refine below_step (by assumption) (by first | omega | (simp; done) | (simp; omega)) ?_))) (by unfold maxLen; omega) (by omega) (by simp) ?_; intro v8 w8 ho8 hg8 hat8; simp only [Nat.zero_add, List.nil_append] at ho8; have hb8 : Below w5.heap.size w5 w8 := Below.grown (show Below w5.heap.size w5 ((w5.alloc (.cells #[.int .i64 T.z.num, .int .i64 (T.z.den : Int)] 29)).alloc (.cells #[] 29)) by repeat (first | exact Below.refl _ _ | refine below_dN ?_ _ | refine Below.drew ?_ | refine Below.alloc ?_ (by first | omega | (simp; done) | (simp; omega)) _ | refine Below.setCell ?_ (by first | omega | (simp; done) | (simp; omega)) _ | refine below_step (by assumption) (by first | omega | (simp; done) | (simp; omega)) ?_)) hg8 (by simp; omega) (fun g h => by cases h; exact Nat.le_succ _); have hV8 : Own2 w8 w5.heap.size T.z.num T.z.den := Own2.grown (Own2.new.alloc _) (own_made1 w5 _) hg8 (Nat.lt_succ_self _); have Ho8 := Lib.hid ho8; clear ho8 hg8 hat8) | (at_builtin; refine wpList_append_src rfl _ _ 22 rfl (w5.heap.size + 1) 29 inf (.agg #[.int .i64 0, .int .i64 0]) 2 16 undC hi iz0 iz1 iz2 rfl (by decide) v8 c.length (fc lx) rfl Ho8.out (some ⟨bY, 0, none⟩) R.length R.length (fc ly) rfl (SY.out _ hb8) (by unfold maxLen; omega) (by omega) (by have := hV8.lt; omega) ?_; intro v9 w9 ho9 hg9 hat9; have hb9 : Below w5.heap.size w5 w9 := Below.grown hb8 hg9 (by have := hV8.lt; omega) (fun g h => by have := (Ho8.out.lt g h).1; omega); have hV9 : Own2 w9 w5.heap.size T.z.num T.z.den := hV8.grown Ho8.out hg9 (Nat.lt_succ_self _); have ho99 : w9.ownsRow (w5.heap.size + 1) 29 2 v9 LL.length (fc LL) := (by rw [HLL.out, List.length_append, Hll.out.1, Hll.out.2, fc_app]; exact ho9); obtain ⟨A9, c9, rfl, _, hF9⟩ := own_fracs ho99 (by omega); have HF9 := Lib.hid hF9; clear ho9 hg9 hat9 ho99 hF9))
      have hP9 := hP5.up hb9
      have B9 := B5.trans (hb9.mono z5)
      have z9 := B9.size
      have FX9 := Lib.hid (show FactsAt w9 w9.heap.size (some ⟨bx, 0, none⟩) lx by rw [HLX.out]; exact fr_facts (HX.out.up hb9) (by omega))
      have FY9 := Lib.hid (show FactsAt w9 w9.heap.size (some ⟨bY, 0, none⟩) ly by rw [HLY.out]; exact fr_facts (HY.out.up hb9) (by omega))
      obtain ⟨VB, hVB⟩ : ∃ VB, VB = w5.heap.size := ⟨_, rfl⟩
      rw [← hVB] at hV9 ⊢
      have KP := Lib.hid (fun k (hk : k < LL.length) wx => (HQ.out k hk).1 ▸ rproper_any (fv LL k) (fx LL k) wx)
      clear hVB hb9 hb8 hV8 Ho8 SX SY p0 p1 p2 p3 hP5 B5 z5
      go_wp2
      go_loopw [75] (fun i wr => ∃ k : Nat, k ≤ LL.length ∧ i = .int .i64 k ∧ Below w9.heap.size w9 wr) (fun i _ => LL.length - (intOf i).toNat)
      case atStart => exact ⟨0, by omega, rfl, Below.refl _ _⟩
      case round =>
        obtain ⟨k, hk, rfl, hbel⟩ := hrel
        have hbz := hbel.size
        by_cases hlt : k < LL.length
        · obtain ⟨b1, o1, ea, hb1, hc1⟩ := HF9.out.at_ hlt
          subst ea
          have d1 := (hbel.cell (p := ⟨b1, o1 + k * 2, none⟩) hb1).trans (hc1 k hlt).1
          have d2 := (hbel.cell (p := ⟨b1, o1 + k * 2 + 1, none⟩) hb1).trans (hc1 k hlt).2
          have g1 : b1 < wr.heap.size := by omega
          have k0 : (0 : Int) ≤ (k : Int) := by omega
          have k1 : (k : Int) < (LL.length : Int) := by omega
          have q1 := (HQ.out k hlt).2
          have K1 := Lib.hid (KP.out k hlt)
          clear hc1
          go_wp2_with fail
          refine (K1.out _).mono ?_
          rintro e w10 ⟨rfl, hb10⟩
          have s0 := (hb10.cell (p := ⟨wr.heap.size, 0, none⟩) (by simp)).trans (show _ = some (.int .i64 (fv LL k)) by simp)
          have s1 := (hb10.cell (p := ⟨wr.heap.size, 1, none⟩) (by simp)).trans (show _ = some (.int .i64 (fx LL k)) by simp)
          have s2 : wr.heap.size < w10.heap.size := by have := hb10.size; simp at this; omega
          have e1 : decide (fv LL k < 0) = false := decide_eq_false (by omega)
          have hb11 := hbel.trans (((Below.refl wr.heap.size wr).alloc (Nat.le_refl _) (.cells #[.int .i64 (fv LL k), .int .i64 (fx LL k)] 29)).trans (hb10.mono (by simp)) |>.mono hbz)
          clear hb10
          go_wp2
          go_roundw
          case rel => exact ⟨k + 1, by omega, by go_num, hb11⟩
          case measure => simp [intOf]; omega
        · obtain rfl : LL.length = k := by omega
          clear HQ KP HF9 lLL
          obtain ⟨wt, hwt⟩ : ∃ wt : World, wt = wr := ⟨_, rfl⟩
          rw [← hwt] at hbel hbz ⊢
          clear hwt
          have hPt := hP9.up hbel
          have hVt := hV9.up hbel
          have Bt := B9.trans (hbel.mono z9)
          have zt := Bt.size
          have FXt := Lib.hid (factsAt_up FX9.out hbel)
          have FYt := Lib.hid (factsAt_up FY9.out hbel)
          have KD := Lib.hid (fun (l : List (Int × Int)) (A : Option Addr) (cl : Nat) wx (h : Below wt.heap.size wt wx) (hl : FactsAt wx wx.heap.size A l) => (by have := dot_any l lx A (some ⟨bx, 0, none⟩) cl c.length wx hl (factsAt_up FXt.out h); rw [Hll.out.1] at this; exact this : Calls Try.prog 24 #[.slice A l.length cl, .slice (some ⟨bx, 0, none⟩) c.length c.length] wx fun e w' => e = .returned (.tuple #[.agg #[.int .i64 (dotF l lx).1, .int .i64 (dotF l lx).2.1], errV (dotF l lx).2.2]) ∧ Below wx.heap.size wx w'))
          have KE := Lib.hid (fun (l : List (Int × Int)) (A : Option Addr) (cl : Nat) wx (h : Below wt.heap.size wt wx) (hl : FactsAt wx wx.heap.size A l) => (by have := dot_any l ly A (some ⟨bY, 0, none⟩) cl R.length wx hl (factsAt_up FYt.out h); rw [Hll.out.2] at this; exact this : Calls Try.prog 24 #[.slice A l.length cl, .slice (some ⟨bY, 0, none⟩) R.length R.length] wx fun e w' => e = .returned (.tuple #[.agg #[.int .i64 (dotF l ly).1, .int .i64 (dotF l ly).2.1], errV (dotF l ly).2.2]) ∧ Below wx.heap.size wx w'))
          have hz := HZ.out
          have NX : NumsOf lx c.length (xB R.length T) := by rw [HLX.out]; exact nums_frq _ _
          have NY : NumsOf ly R.length (fun i => -T.c (c.length + i)) := by rw [HLY.out]; exact nums_frq _ _
          have NC : NumsOf c c.length (rl c) := nums_rl hz.2.2.2.2.1
          have NB : NumsOf b R.length (rl b) := ⟨hz.2.2.1.symm, fun j hj => (nums_rl hz.2.2.2.2.2.1).2 j (by have := hz.2.2.1; omega)⟩
          have rc : ∀ j, j < c.length → Rep (rl c j) := fun j hj => rl_rep (prL_iff.1 hz.2.2.2.2.1 j hj)
          have rb : ∀ j, j < R.length → Rep (rl b j) := fun j hj => rl_rep (prL_iff.1 hz.2.2.2.2.2.1 j (by have := hz.2.2.1; omega))
          have D1 : dotF c lx = (0, 0, 5) ∨ dotF c lx = (T.z.num, (T.z.den : Int), 0) := by
            rcases dot_rat NC NX rc (fun j _ => HS.out.xr j) with h | ⟨h, _⟩
            · exact .inl h
            · rw [show (sg c.length fun j => rl c j * xB R.length T j) = T.z from HS.out.cx] at h
              exact .inr h
          have D2 : dotF b ly = (0, 0, 5) ∨ dotF b ly = (T.z.num, (T.z.den : Int), 0) := by
            rcases dot_rat NB NY rb (fun j hj => HS.out.yr hj) with h | ⟨h, _⟩
            · exact .inl h
            · rw [show (sg R.length fun j => rl b j * -T.c (c.length + j)) = T.z from HS.out.by'] at h
              exact .inr h
          have HNX := Lib.hid NX
          have HNY := Lib.hid NY
          have p0 := hPt.lt
          have p1 := hPt.c0
          have p2 := hPt.c1
          have p3 := hPt.c2
          clear hz NX NY NC NB rc rb hbel hbz hP9 hV9 B9 z9
          have K1 := KD.out c Ac cc wt (Below.refl _ _) (factsAt_up Hc.out Bt)
          have K2 := fun wx h => KE.out b Ab cb wx h (factsAt_up Hb.out (Bt.trans (h.mono zt)))
          rcases D1 with h1 | h1 <;> rcases D2 with h2 | h2
          all_goals
            rw [h1] at K1
            rw [h2] at K2
            simp only [errV_0, errV_5] at K1 K2
            have K1' := Lib.hid K1
            have K2' := Lib.hid K2
            clear K1 K2 h1 h2
            go_wp2_with fail
            refine K1'.out.mono ?_
            rintro e w11 ⟨rfl, hb11⟩
            have hP11 := hPt.up hb11
            have hV11 := hVt.up hb11
            have z11 := hb11.size
            clear p0 p1 p2 p3
            have p0 := hP11.lt
            have p1 := hP11.c0
            have p2 := hP11.c1
            have p3 := hP11.c2
            go_wp2_with fail
            refine (K2'.out _ (by repeat (first | exact Below.refl _ _ | refine below_dN ?_ _ | refine Below.drew ?_ | refine Below.alloc ?_ (by first | omega | (simp; done) | (simp; omega)) _ | refine Below.setCell ?_ (by first | omega | (simp; done) | (simp; omega)) _ | refine below_step (by assumption) (by first | omega | (simp; done) | (simp; omega)) ?_))).mono ?_
            rintro e w12 ⟨rfl, hb12⟩
            have hbt := hb11.trans (((Below.refl _ _).alloc (Nat.le_refl _) _).trans (hb12.mono (by simp)) |>.mono z11)
            have hB1 := Own2.up Own2.new hb12
            have hP12 := hPt.up hbt
            have hV12 := hVt.up hbt
            clear p0 p1 p2 p3 hP11 hV11 hb12
            have p0 := hP12.lt
            have p1 := hP12.c0
            have p2 := hP12.c1
            have p3 := hP12.c2
            obtain ⟨t0, t1, t2, t3, t4⟩ := id hB1
            obtain ⟨y0, y1, y2, y3, y4⟩ := id hV12
            have hbtz := hbt.size
            go_wp2
            go_loopw [121] (fun i wr => ∃ k : Nat, k ≤ R.length ∧ i = .int .i64 k ∧ Below w12.heap.size w12 wr) (fun i _ => R.length - (intOf i).toNat)
            case atStart => exact ⟨0, by omega, rfl, by repeat (first | exact Below.refl _ _ | refine below_dN ?_ _ | refine Below.drew ?_ | refine Below.alloc ?_ (by first | omega | (simp; done) | (simp; omega)) _ | refine Below.setCell ?_ (by first | omega | (simp; done) | (simp; omega)) _ | refine below_step (by assumption) (by first | omega | (simp; done) | (simp; omega)) ?_)⟩
            case round =>
              clear t0 t1 t2 t3 t4 y0 y1 y2 y3 y4 p0 p1 p2 p3
              obtain ⟨k, hk, rfl, hbel⟩ := hrel
              have hbz := hbel.size
              have hPr := hP12.up hbel
              have hbr := hbt.trans (hbel.mono hbtz)
              have Br := Bt.trans (hbr.mono zt)
              by_cases hlt : k < R.length
              · obtain ⟨b1, o1, ea, hb1, hc1⟩ := HR.out.at_ hlt
                subst ea
                obtain ⟨S, cS, d1, _, hS⟩ := hc1 k hlt
                have d1' := (Br.cell (p := ⟨b1, o1 + k, none⟩) hb1).trans d1
                have g1 : b1 < wr.heap.size := by have := Br.size; omega
                have hlt2 : k < b.length := by have := HZ.out.2.2.1; omega
                obtain ⟨b2, o2, eb, hb2, hc2⟩ := Hb.out.at_ hlt2
                subst eb
                have k0 : (0 : Int) ≤ (k : Int) := by omega
                have k1 : (k : Int) < (R.length : Int) := by omega
                have k2 : (k : Int) < (b.length : Int) := by omega
                have K3 := KD.out (mr R k) S cS wr hbr (factsAt_up hS Br)
                have HC := Lib.hid (hc2 k hlt2)
                have HD := Lib.hid (sol_row HS.out HZ.out HNX.out hlt)
                clear hc1 hc2 d1 hS
                have p0 := hPr.lt
                have p1 := hPr.c0
                have p2 := hPr.c1
                have p3 := hPr.c2
                rcases HD.out with h | ⟨z, hz, h⟩
                · rw [h] at K3
                  simp only [errV_5] at K3
                  have K3' := Lib.hid K3
                  clear K3 h
                  go_wp2_with fail
                  refine K3'.out.mono ?_
                  rintro e w13 ⟨rfl, hb13⟩
                  have hb23 := hbel.trans (hb13.mono hbz)
                  have z23 := hb23.size
                  clear hb13 p0 p1 p2 p3
                  go_wp2_with fail
                  refine wp_region_G 11 (fun w' => True) (by kernel_rfl) (trivial) ?_
                  intro hG0
                  refine wpAnyG_any (i := 0) (v := ?_) rfl hG0 (by kernel_rfl) (by kernel_rfl) (by kernel_rfl) rfl (fun _ _ _ h => h) (Or.inl ⟨by rfl, ?_⟩) ?_; rotate_left; (intro wS hSw; (try dsimp only at hSw); first | (go_simp; done) | (go_simp; with_reducible rfl) | (simp [go_sem, ↓IntWalk.iteOmega, *]; done) | (simp [go_sem, ↓IntWalk.iteOmega, *]; with_reducible rfl)); (intro hG1); clear hG0; (try simp only [Act.put, List.setIfInBounds_toArray, List.set_cons_zero, List.set_cons_succ, List.getElem_toArray, List.getElem_cons_succ, List.getElem_cons_zero])
                  refine wpAnyG_any (i := 1) (v := ?_) rfl hG1 (by kernel_rfl) (by kernel_rfl) (by kernel_rfl) rfl (fun _ _ _ h => h) (Or.inl ⟨by rfl, ?_⟩) ?_; rotate_left; (intro wS hSw; (try dsimp only at hSw); first | (go_simp; done) | (go_simp; with_reducible rfl) | (simp [go_sem, ↓IntWalk.iteOmega, *]; done) | (simp [go_sem, ↓IntWalk.iteOmega, *]; with_reducible rfl)); (intro hG2); clear hG1; (try simp only [Act.put, List.setIfInBounds_toArray, List.set_cons_zero, List.set_cons_succ, List.getElem_toArray, List.getElem_cons_succ, List.getElem_cons_zero])
                  refine wpAnyG_any (i := 2) (v := .bool false) rfl hG2 (by kernel_rfl) (by kernel_rfl) (by kernel_rfl) rfl (fun _ _ _ h => h) (Or.inl ⟨by rfl, ?_⟩) ?_; (focus (intro wS hSw; (try dsimp only at hSw); (try go_simp); (try simp [go_sem, ↓IntWalk.iteOmega, *]))); (intro hG3); clear hG2; (try simp only [Act.put, List.setIfInBounds_toArray, List.set_cons_zero, List.set_cons_succ, List.getElem_toArray, List.getElem_cons_succ, List.getElem_cons_zero])
                  refine wpAnyG_any (i := 3) (v := undef) rfl hG3 (by kernel_rfl) (by kernel_rfl) (by kernel_rfl) rfl (fun _ _ _ h => h) (Or.inr ⟨by rfl, rfl⟩) ?_; (intro hG4); clear hG3; (try simp only [Act.put, List.setIfInBounds_toArray, List.set_cons_zero, List.set_cons_succ, List.getElem_toArray, List.getElem_cons_succ, List.getElem_cons_zero])
                  refine wpAnyG_any (i := 4) (v := undef) rfl hG4 (by kernel_rfl) (by kernel_rfl) (by kernel_rfl) rfl (fun _ _ _ h => h) (Or.inr ⟨by rfl, rfl⟩) ?_; (intro hG5); clear hG4; (try simp only [Act.put, List.setIfInBounds_toArray, List.set_cons_zero, List.set_cons_succ, List.getElem_toArray, List.getElem_cons_succ, List.getElem_cons_zero])
                  refine wpAnyG_any (i := 5) (v := undef) rfl hG5 (by kernel_rfl) (by kernel_rfl) (by kernel_rfl) rfl (fun _ _ _ h => h) (Or.inr ⟨by rfl, rfl⟩) ?_; (intro hG6); clear hG5; (try simp only [Act.put, List.setIfInBounds_toArray, List.set_cons_zero, List.set_cons_succ, List.getElem_toArray, List.getElem_cons_succ, List.getElem_cons_zero])
                  refine wpAnyG_any (i := 6) (v := undef) rfl hG6 (by kernel_rfl) (by kernel_rfl) (by kernel_rfl) rfl (fun _ _ _ h => h) (Or.inr ⟨by rfl, rfl⟩) ?_; (intro hG7); clear hG6; (try simp only [Act.put, List.setIfInBounds_toArray, List.set_cons_zero, List.set_cons_succ, List.getElem_toArray, List.getElem_cons_succ, List.getElem_cons_zero])
                  refine wpAnyG_any (i := 7) (v := undef) rfl hG7 (by kernel_rfl) (by kernel_rfl) (by kernel_rfl) rfl (fun _ _ _ h => h) (Or.inr ⟨by rfl, rfl⟩) ?_; (intro hG8); clear hG7; (try simp only [Act.put, List.setIfInBounds_toArray, List.set_cons_zero, List.set_cons_succ, List.getElem_toArray, List.getElem_cons_succ, List.getElem_cons_zero])
                  refine wpAnyG_any (i := 8) (v := undef) rfl hG8 (by kernel_rfl) (by kernel_rfl) (by kernel_rfl) rfl (fun _ _ _ h => h) (Or.inr ⟨by rfl, rfl⟩) ?_; (intro hG9); clear hG8; (try simp only [Act.put, List.setIfInBounds_toArray, List.set_cons_zero, List.set_cons_succ, List.getElem_toArray, List.getElem_cons_succ, List.getElem_cons_zero])
                  refine wpAnyG_any (i := 9) (v := undef) rfl hG9 (by kernel_rfl) (by kernel_rfl) (by kernel_rfl) rfl (fun _ _ _ h => h) (Or.inr ⟨by rfl, rfl⟩) ?_; (intro hG10); clear hG9; (try simp only [Act.put, List.setIfInBounds_toArray, List.set_cons_zero, List.set_cons_succ, List.getElem_toArray, List.getElem_cons_succ, List.getElem_cons_zero])
                  refine wpAnyG_any (i := 10) (v := undef) rfl hG10 (by kernel_rfl) (by kernel_rfl) (by kernel_rfl) rfl (fun _ _ _ h => h) (Or.inr ⟨by rfl, rfl⟩) ?_; (intro hG11); clear hG10; (try simp only [Act.put, List.setIfInBounds_toArray, List.set_cons_zero, List.set_cons_succ, List.getElem_toArray, List.getElem_cons_succ, List.getElem_cons_zero])
                  refine wpAnyG_ready (rs := [11]) (by kernel_rfl) (by simp) (AllG.cons rfl hG11 (fun K hK => ?_) AllG.nil)
                  (go_simp)
                  refine hK.out _ _ (Or.inl rfl) (fun hG12 => ?_); clear hK hG11; (try simp only [Act.put, List.setIfInBounds_toArray, List.set_cons_zero, List.set_cons_succ, List.getElem_toArray, List.getElem_cons_succ, List.getElem_cons_zero])
                  refine wpAnyG_done (by kernel_rfl) ?_ _; clear hG12
                  go_wp2
                  go_roundw
                  case rel => exact ⟨k + 1, by omega, by go_num, by repeat (first | exact Below.refl _ _ | refine below_dN ?_ _ | refine Below.drew ?_ | refine Below.alloc ?_ (by first | omega | (simp; done) | (simp; omega)) _ | refine Below.setCell ?_ (by first | omega | (simp; done) | (simp; omega)) _ | refine below_step (by assumption) (by first | omega | (simp; done) | (simp; omega)) ?_)⟩
                  case measure => simp [intOf]; omega
                · obtain ⟨zn, hzn⟩ : ∃ zn, zn = z.num := ⟨_, rfl⟩
                  obtain ⟨zd, hzd⟩ : ∃ zd, zd = (z.den : Int) := ⟨_, rfl⟩
                  rw [← hzn, ← hzd] at h hz
                  obtain ⟨cv, hcv⟩ : ∃ cv, cv = cmpF zn zd (fv b k) (fx b k) := ⟨_, rfl⟩
                  have KC := Lib.hid (fun wx => (by have := cmp_any zn zd (fv b k) (fx b k) wx; rw [← hcv] at this; exact this : Calls Try.prog 18 #[.agg #[.int .i64 zn, .int .i64 zd], .agg #[.int .i64 (fv b k), .int .i64 (fx b k)]] wx fun e w' => e = .returned (.int .i64 cv) ∧ Below wx.heap.size wx w'))
                  rw [← hcv] at hz
                  have e1 : decide (0 < cv) = false := decide_eq_false (by omega)
                  rw [h] at K3
                  simp only [errV_0] at K3
                  have K3' := Lib.hid K3
                  clear K3 h hzn hzd hcv hz
                  go_wp2_with fail
                  refine K3'.out.mono ?_
                  rintro e w13 ⟨rfl, hb13⟩
                  have hb23 := hbel.trans (hb13.mono hbz)
                  have z23 := hb23.size
                  have hP13 := hPr.up hb13
                  have B13 := Br.trans (hb13.mono Br.size)
                  have d3 := (B13.cell (p := ⟨b2, o2 + k * 2, none⟩) hb2).trans HC.out.1
                  have d4 := (B13.cell (p := ⟨b2, o2 + k * 2 + 1, none⟩) hb2).trans HC.out.2
                  have g2 : b2 < w13.heap.size := by have := B13.size; omega
                  clear hb13 p0 p1 p2 p3
                  have p0 := hP13.lt
                  have p1 := hP13.c0
                  have p2 := hP13.c1
                  have p3 := hP13.c2
                  go_wp2_with fail
                  refine wp_region_G 9 (fun w' => ∀ b o, w'.cell? ⟨b, o, none⟩ = if b < w13.heap.size + 1 then (w13.alloc (.cells #[.int .i64 zn, .int .i64 zd] 29)).cell? ⟨b, o, none⟩ else hidC w' b o) (by kernel_rfl) (cif (B := w13.heap.size + 1) (Below.refl _ _).drew) ?_
                  intro hG0
                  refine wpAnyG_any (i := 0) (v := ?_) rfl hG0 (by kernel_rfl) (by kernel_rfl) (by kernel_rfl) rfl (fun _ _ _ h => h) (Or.inl ⟨by rfl, ?_⟩) ?_; rotate_left; (intro wS hSw; (try dsimp only at hSw); first | (go_simp; done) | (go_simp; with_reducible rfl) | (simp [go_sem, ↓IntWalk.iteOmega, *]; done) | (simp [go_sem, ↓IntWalk.iteOmega, *]; with_reducible rfl)); (intro hG1); clear hG0; (try simp only [Act.put, List.setIfInBounds_toArray, List.set_cons_zero, List.set_cons_succ, List.getElem_toArray, List.getElem_cons_succ, List.getElem_cons_zero])
                  refine wpAnyG_any (i := 1) (v := ?_) rfl hG1 (by kernel_rfl) (by kernel_rfl) (by kernel_rfl) rfl (fun _ _ _ h => h) (Or.inl ⟨by rfl, ?_⟩) ?_; rotate_left; (intro wS hSw; (try dsimp only at hSw); first | (go_simp; done) | (go_simp; with_reducible rfl) | (simp [go_sem, ↓IntWalk.iteOmega, *]; done) | (simp [go_sem, ↓IntWalk.iteOmega, *]; with_reducible rfl)); (intro hG2); clear hG1; (try simp only [Act.put, List.setIfInBounds_toArray, List.set_cons_zero, List.set_cons_succ, List.getElem_toArray, List.getElem_cons_succ, List.getElem_cons_zero])
                  refine wpAnyG_any (i := 2) (v := .bool true) rfl hG2 (by kernel_rfl) (by kernel_rfl) (by kernel_rfl) rfl (fun _ _ _ h => h) (Or.inl ⟨by rfl, ?_⟩) ?_; (focus (intro wS hSw; (try dsimp only at hSw); (try go_simp); (try simp [go_sem, ↓IntWalk.iteOmega, *]))); (intro hG3); clear hG2; (try simp only [Act.put, List.setIfInBounds_toArray, List.set_cons_zero, List.set_cons_succ, List.getElem_toArray, List.getElem_cons_succ, List.getElem_cons_zero])
                  refine wpAnyG_take (i := 3) (v := ?_) rfl hG3 (by kernel_rfl) (by kernel_rfl) (by kernel_rfl) rfl (by kernel_rfl) (fun _ _ _ h => h) (Or.inl ⟨by rfl, ?_⟩) ?_; rotate_left; (intro wS hSw; (try dsimp only at hSw); first | (go_simp; done) | (go_simp; with_reducible rfl) | (simp [go_sem, ↓IntWalk.iteOmega, *]; done) | (simp [go_sem, ↓IntWalk.iteOmega, *]; with_reducible rfl)); (intro hG4); clear hG3; (try simp only [Act.put, List.setIfInBounds_toArray, List.set_cons_zero, List.set_cons_succ, List.getElem_toArray, List.getElem_cons_succ, List.getElem_cons_zero])
                  refine wpAnyG_any (i := 4) (v := ?_) rfl hG4 (by kernel_rfl) (by kernel_rfl) (by kernel_rfl) rfl (fun _ _ _ h => h) (Or.inl ⟨by rfl, ?_⟩) ?_; rotate_left; (intro wS hSw; (try dsimp only at hSw); first | (go_simp; done) | (go_simp; with_reducible rfl) | (simp [go_sem, ↓IntWalk.iteOmega, *]; done) | (simp [go_sem, ↓IntWalk.iteOmega, *]; with_reducible rfl)); (intro hG5); clear hG4; (try simp only [Act.put, List.setIfInBounds_toArray, List.set_cons_zero, List.set_cons_succ, List.getElem_toArray, List.getElem_cons_succ, List.getElem_cons_zero])
                  refine wpAnyG_take (i := 5) (v := ?_) rfl hG5 (by kernel_rfl) (by kernel_rfl) (by kernel_rfl) rfl (by kernel_rfl) (fun _ _ _ h => h) (Or.inl ⟨by rfl, ?_⟩) ?_; rotate_left; (intro wS hSw; (try dsimp only at hSw); first | (go_simp; done) | (go_simp; with_reducible rfl) | (simp [go_sem, ↓IntWalk.iteOmega, *]; done) | (simp [go_sem, ↓IntWalk.iteOmega, *]; with_reducible rfl)); (intro hG6); clear hG5; (try simp only [Act.put, List.setIfInBounds_toArray, List.set_cons_zero, List.set_cons_succ, List.getElem_toArray, List.getElem_cons_succ, List.getElem_cons_zero])
                  refine wpAnyG_any (i := 6) (v := ?_) rfl hG6 (by kernel_rfl) (by kernel_rfl) (by kernel_rfl) rfl (fun _ _ _ h => h) (Or.inl ⟨by rfl, ?_⟩) ?_; rotate_left; (intro wS hSw; (try dsimp only at hSw); first | (go_simp; done) | (go_simp; with_reducible rfl) | (simp [go_sem, ↓IntWalk.iteOmega, *]; done) | (simp [go_sem, ↓IntWalk.iteOmega, *]; with_reducible rfl)); (intro hG7); clear hG6; (try simp only [Act.put, List.setIfInBounds_toArray, List.set_cons_zero, List.set_cons_succ, List.getElem_toArray, List.getElem_cons_succ, List.getElem_cons_zero])
                  refine wpAnyG_any (i := 7) (v := ?_) rfl hG7 (by kernel_rfl) (by kernel_rfl) (by kernel_rfl) rfl (fun _ _ _ h => h) (Or.inl ⟨by rfl, ?_⟩) ?_; rotate_left; (intro wS hSw; (try dsimp only at hSw); first | (go_simp; done) | (go_simp; with_reducible rfl) | (simp [go_sem, ↓IntWalk.iteOmega, *]; done) | (simp [go_sem, ↓IntWalk.iteOmega, *]; with_reducible rfl)); (intro hG8); clear hG7; (try simp only [Act.put, List.setIfInBounds_toArray, List.set_cons_zero, List.set_cons_succ, List.getElem_toArray, List.getElem_cons_succ, List.getElem_cons_zero])
                  refine wpAnyG_take (i := 8) (v := ?_) rfl hG8 (by kernel_rfl) (by kernel_rfl) (by kernel_rfl) rfl (by kernel_rfl) (fun _ _ _ h => h) (Or.inl ⟨by rfl, ?_⟩) ?_; rotate_left; (intro wS hSw; (try dsimp only at hSw); first | (go_simp; done) | (go_simp; with_reducible rfl) | (simp [go_sem, ↓IntWalk.iteOmega, *]; done) | (simp [go_sem, ↓IntWalk.iteOmega, *]; with_reducible rfl)); (intro hG9); clear hG8; (try simp only [Act.put, List.setIfInBounds_toArray, List.set_cons_zero, List.set_cons_succ, List.getElem_toArray, List.getElem_cons_succ, List.getElem_cons_zero])
                  refine wpAnyG_ready (rs := [9]) (by kernel_rfl) (by simp) (AllG.cons rfl hG9 (fun K hK => ?_) AllG.nil)
                  refine (if_pos (by rfl)).mpr ?_
                  (go_simp; go_at_call 18; refine (KC.out _).mono ?_; rintro e w14 ⟨rfl, hb14⟩)
                  refine hK.out _ _ (Or.inl rfl) (fun hG10 => ?_); clear hK hG9; (try simp only [Act.put, List.setIfInBounds_toArray, List.set_cons_zero, List.set_cons_succ, List.getElem_toArray, List.getElem_cons_succ, List.getElem_cons_zero])
                  refine wpAnyG_any (i := 10) (v := ?_) rfl hG10 (by kernel_rfl) (by kernel_rfl) (by kernel_rfl) rfl (fun _ _ _ h => h) (Or.inl ⟨by rfl, ?_⟩) ?_; rotate_left; (intro wS hSw; (try dsimp only at hSw); first | (go_simp; done) | (go_simp; with_reducible rfl) | (simp [go_sem, ↓IntWalk.iteOmega, *]; done) | (simp [go_sem, ↓IntWalk.iteOmega, *]; with_reducible rfl)); (intro hG11); clear hG10; (try simp only [Act.put, List.setIfInBounds_toArray, List.set_cons_zero, List.set_cons_succ, List.getElem_toArray, List.getElem_cons_succ, List.getElem_cons_zero])
                  refine wpAnyG_any (i := 11) (v := ?_) rfl hG11 (by kernel_rfl) (by kernel_rfl) (by kernel_rfl) rfl (fun _ _ _ h => h) (Or.inl ⟨by rfl, ?_⟩) ?_; rotate_left; (intro wS hSw; (try dsimp only at hSw); first | (go_simp; done) | (go_simp; with_reducible rfl) | (simp [go_sem, ↓IntWalk.iteOmega, *]; done) | (simp [go_sem, ↓IntWalk.iteOmega, *]; with_reducible rfl)); (intro hG12); clear hG11; (try simp only [Act.put, List.setIfInBounds_toArray, List.set_cons_zero, List.set_cons_succ, List.getElem_toArray, List.getElem_cons_succ, List.getElem_cons_zero])
                  refine wpAnyG_done (by kernel_rfl) ?_ _; clear hG12
                  have hb24 := hb23.trans ((((Below.refl w13.heap.size w13).alloc (Nat.le_refl _) (.cells #[.int .i64 zn, .int .i64 zd] 29)).drew.trans (hb14.mono (by simp))).mono z23)
                  clear hb14
                  go_wp2
                  go_roundw
                  case rel => exact ⟨k + 1, by omega, by go_num, hb24⟩
                  case measure => simp [intOf]; omega
              · obtain rfl : R.length = k := by omega
                obtain ⟨ws, hws⟩ : ∃ ws : World, ws = wr := ⟨_, rfl⟩
                rw [← hws] at hbel hbz hPr hbr Br ⊢
                clear hws
                have zs := hbr.size
                have p0 := hPr.lt
                have p1 := hPr.c0
                have p2 := hPr.c1
                have p3 := hPr.c2
                go_wp2
                clear p0 p1 p2 p3
                go_loopw [150] (fun i wr => ∃ j : Nat, j ≤ c.length ∧ i = .int .i64 j ∧ Below ws.heap.size ws wr) (fun i _ => c.length - (intOf i).toNat)
                case atStart => exact ⟨0, by omega, rfl, Below.refl _ _⟩
                case round =>
                  obtain ⟨j, hj, rfl, hbel3⟩ := hrel
                  obtain ⟨wu, hwu⟩ : ∃ wu : World, wu = wr := ⟨_, rfl⟩
                  rw [← hwu] at hbel3 ⊢
                  clear hwu
                  have hbz3 := hbel3.size
                  have hP3 := hPr.up hbel3
                  have hbr3 := hbr.trans (hbel3.mono zs)
                  have Br3 := Bt.trans (hbr3.mono zt)
                  have zu := hbr3.size
                  by_cases hltj : j < c.length
                  · obtain ⟨b2, o2, eb, hb2, hc2⟩ := Hc.out.at_ hltj
                    subst eb
                    have HC2 := Lib.hid (hc2 j hltj)
                    have HCol := Lib.hid (sol_col HS.out HZ.out HNY.out hltj)
                    clear hc2
                    have j0 : (0 : Int) ≤ (j : Int) := by omega
                    have j1 : (j : Int) < (c.length : Int) := by omega
                    have p0 := hP3.lt
                    have p1 := hP3.c0
                    have p2 := hP3.c1
                    have p3 := hP3.c2
                    go_wp2
                    clear p0 p1 p2 p3
                    go_loopw [17, 156] (fun v i wr => ∃ (k : Nat) (A' : Option Addr) (c' : Nat), k ≤ R.length ∧ i = .int .i64 k ∧ v = .slice A' k c' ∧ Hid (wr.ownsRow wu.heap.size 29 2 (.slice A' k c') (cln R j k).length (fc (cln R j k))) ∧ Below wu.heap.size wu wr) (fun _ i _ => R.length - (intOf i).toNat)
                    case atStart => exact ⟨0, none, 0, by omega, rfl, rfl, Lib.hid (World.ownsRow_nil _ _ _ _), Below.refl _ _⟩
                    case round =>
                      obtain ⟨k, A', c', hk, rfl, rfl, hown, hbel4⟩ := hrel
                      have hbz4 := hbel4.size
                      have hP4 := hP3.up hbel4
                      have hbr4 := hbr3.trans (hbel4.mono zu)
                      have Br4 := Bt.trans (hbr4.mono zt)
                      have Hl1 := Lib.hid (cln_len R j k)
                      have Hl2 := Lib.hid (cln_len R j (k + 1))
                      have p0 := hP4.lt
                      have p1 := hP4.c0
                      have p2 := hP4.c1
                      have p3 := hP4.c2
                      by_cases hltk : k < R.length
                      · obtain ⟨b1, o1, ea, hb1, hc1⟩ := HR.out.at_ hltk
                        subst ea
                        obtain ⟨S, cS, d1, _, hS⟩ := hc1 k hltk
                        have hlen := HZ.out.2.2.2.1 k hltk
                        obtain ⟨b3, o3, es, hb3, hc3⟩ := hS.at_ (show j < (mr R k).length by omega)
                        subst es
                        have d1' := (Br4.cell (p := ⟨b1, o1 + k, none⟩) hb1).trans d1
                        have d2' := (Br4.cell (p := ⟨b3, o3 + j * 2, none⟩) hb3).trans (hc3 j (by omega)).1
                        have d3' := (Br4.cell (p := ⟨b3, o3 + j * 2 + 1, none⟩) hb3).trans (hc3 j (by omega)).2
                        rw [hlen] at d1'
                        have g1 : b1 < wr.heap.size := by have := Br4.size; omega
                        have g3 : b3 < wr.heap.size := by have := Br4.size; omega
                        have k0 : (0 : Int) ≤ (k : Int) := by omega
                        have k1 : (k : Int) < (R.length : Int) := by omega
                        have HSc := Lib.hid (cln_succ R j k)
                        clear hc1 d1 hS hc3 hlen
                        go_wp2_with (at_builtin; refine wpList_push rfl _ _ 22 rfl wu.heap.size 29 inf (.agg #[.int .i64 0, .int .i64 0]) 2 16 undC hi iz0 iz1 iz2 rfl (by decide) (by decide) _ (cln R j k).length (fc (cln R j k)) rfl (hown.out.alloc _) wr.heap.size 29 [.int .i64 (fv (mr R k) j), .int .i64 (fx (mr R k) j)] rfl rfl (heap_alloc_new _ _) (two_one rfl rfl) (by have := Hl1.out; omega) (by first | omega | (simp; omega)) (B := wu.heap.size) (W := wu) (hbel4.alloc hbz4 _) (Nat.le_refl _) ?_; intro v8 w8 ho8 hg8 hat8 hb8; have ho9 : w8.ownsRow wu.heap.size 29 2 v8 (cln R j (k + 1)).length (fc (cln R j (k + 1))) := (by rw [HSc.out, List.length_append, fc_app]; exact ho8); obtain ⟨A8, c8, rfl⟩ := own_shapeL ho9 Hl2.out; have Ho9 := Lib.hid ho9; clear ho8 ho9 hg8 hat8)
                        go_roundw
                        case rel => exact ⟨k + 1, A8, c8, by omega, by go_num, rfl, Ho9, hb8⟩
                        case measure => simp [intOf]; omega
                      · obtain rfl : R.length = k := by omega
                        obtain ⟨A9', c9', hv, _, hF⟩ := own_fracs hown.out (by have := Hl1.out; omega)
                        injection hv with hv1 hv2 hv3
                        subst hv1
                        have K4 := KE.out (cln R j R.length) A' c' wr hbr4 hF
                        rw [cln_len] at K4
                        clear hv2 hv3 hF hown
                        rcases HCol.out with h | ⟨z, hz, h⟩
                        · rw [h] at K4
                          simp only [errV_5] at K4
                          have K4' := Lib.hid K4
                          clear K4 h
                          go_wp2_with fail
                          refine K4'.out.mono ?_
                          rintro e w13 ⟨rfl, hb13⟩
                          have hb33 := hbel3.trans ((hbel4.trans (hb13.mono hbz4)).mono hbz3)
                          have z33 := hb33.size
                          clear hb13 p0 p1 p2 p3
                          go_wp2_with fail
                          refine wp_region_G 11 (fun w' => True) (by kernel_rfl) (trivial) ?_
                          intro hG0
                          refine wpAnyG_any (i := 0) (v := ?_) rfl hG0 (by kernel_rfl) (by kernel_rfl) (by kernel_rfl) rfl (fun _ _ _ h => h) (Or.inl ⟨by rfl, ?_⟩) ?_; rotate_left; (intro wS hSw; (try dsimp only at hSw); first | (go_simp; done) | (go_simp; with_reducible rfl) | (simp [go_sem, ↓IntWalk.iteOmega, *]; done) | (simp [go_sem, ↓IntWalk.iteOmega, *]; with_reducible rfl)); (intro hG1); clear hG0; (try simp only [Act.put, List.setIfInBounds_toArray, List.set_cons_zero, List.set_cons_succ, List.getElem_toArray, List.getElem_cons_succ, List.getElem_cons_zero])
                          refine wpAnyG_any (i := 1) (v := ?_) rfl hG1 (by kernel_rfl) (by kernel_rfl) (by kernel_rfl) rfl (fun _ _ _ h => h) (Or.inl ⟨by rfl, ?_⟩) ?_; rotate_left; (intro wS hSw; (try dsimp only at hSw); first | (go_simp; done) | (go_simp; with_reducible rfl) | (simp [go_sem, ↓IntWalk.iteOmega, *]; done) | (simp [go_sem, ↓IntWalk.iteOmega, *]; with_reducible rfl)); (intro hG2); clear hG1; (try simp only [Act.put, List.setIfInBounds_toArray, List.set_cons_zero, List.set_cons_succ, List.getElem_toArray, List.getElem_cons_succ, List.getElem_cons_zero])
                          refine wpAnyG_any (i := 2) (v := .bool false) rfl hG2 (by kernel_rfl) (by kernel_rfl) (by kernel_rfl) rfl (fun _ _ _ h => h) (Or.inl ⟨by rfl, ?_⟩) ?_; (focus (intro wS hSw; (try dsimp only at hSw); (try go_simp); (try simp [go_sem, ↓IntWalk.iteOmega, *]))); (intro hG3); clear hG2; (try simp only [Act.put, List.setIfInBounds_toArray, List.set_cons_zero, List.set_cons_succ, List.getElem_toArray, List.getElem_cons_succ, List.getElem_cons_zero])
                          refine wpAnyG_any (i := 3) (v := undef) rfl hG3 (by kernel_rfl) (by kernel_rfl) (by kernel_rfl) rfl (fun _ _ _ h => h) (Or.inr ⟨by rfl, rfl⟩) ?_; (intro hG4); clear hG3; (try simp only [Act.put, List.setIfInBounds_toArray, List.set_cons_zero, List.set_cons_succ, List.getElem_toArray, List.getElem_cons_succ, List.getElem_cons_zero])
                          refine wpAnyG_any (i := 4) (v := undef) rfl hG4 (by kernel_rfl) (by kernel_rfl) (by kernel_rfl) rfl (fun _ _ _ h => h) (Or.inr ⟨by rfl, rfl⟩) ?_; (intro hG5); clear hG4; (try simp only [Act.put, List.setIfInBounds_toArray, List.set_cons_zero, List.set_cons_succ, List.getElem_toArray, List.getElem_cons_succ, List.getElem_cons_zero])
                          refine wpAnyG_any (i := 5) (v := undef) rfl hG5 (by kernel_rfl) (by kernel_rfl) (by kernel_rfl) rfl (fun _ _ _ h => h) (Or.inr ⟨by rfl, rfl⟩) ?_; (intro hG6); clear hG5; (try simp only [Act.put, List.setIfInBounds_toArray, List.set_cons_zero, List.set_cons_succ, List.getElem_toArray, List.getElem_cons_succ, List.getElem_cons_zero])
                          refine wpAnyG_any (i := 6) (v := undef) rfl hG6 (by kernel_rfl) (by kernel_rfl) (by kernel_rfl) rfl (fun _ _ _ h => h) (Or.inr ⟨by rfl, rfl⟩) ?_; (intro hG7); clear hG6; (try simp only [Act.put, List.setIfInBounds_toArray, List.set_cons_zero, List.set_cons_succ, List.getElem_toArray, List.getElem_cons_succ, List.getElem_cons_zero])
                          refine wpAnyG_any (i := 7) (v := undef) rfl hG7 (by kernel_rfl) (by kernel_rfl) (by kernel_rfl) rfl (fun _ _ _ h => h) (Or.inr ⟨by rfl, rfl⟩) ?_; (intro hG8); clear hG7; (try simp only [Act.put, List.setIfInBounds_toArray, List.set_cons_zero, List.set_cons_succ, List.getElem_toArray, List.getElem_cons_succ, List.getElem_cons_zero])
                          refine wpAnyG_any (i := 8) (v := undef) rfl hG8 (by kernel_rfl) (by kernel_rfl) (by kernel_rfl) rfl (fun _ _ _ h => h) (Or.inr ⟨by rfl, rfl⟩) ?_; (intro hG9); clear hG8; (try simp only [Act.put, List.setIfInBounds_toArray, List.set_cons_zero, List.set_cons_succ, List.getElem_toArray, List.getElem_cons_succ, List.getElem_cons_zero])
                          refine wpAnyG_any (i := 9) (v := undef) rfl hG9 (by kernel_rfl) (by kernel_rfl) (by kernel_rfl) rfl (fun _ _ _ h => h) (Or.inr ⟨by rfl, rfl⟩) ?_; (intro hG10); clear hG9; (try simp only [Act.put, List.setIfInBounds_toArray, List.set_cons_zero, List.set_cons_succ, List.getElem_toArray, List.getElem_cons_succ, List.getElem_cons_zero])
                          refine wpAnyG_any (i := 10) (v := undef) rfl hG10 (by kernel_rfl) (by kernel_rfl) (by kernel_rfl) rfl (fun _ _ _ h => h) (Or.inr ⟨by rfl, rfl⟩) ?_; (intro hG11); clear hG10; (try simp only [Act.put, List.setIfInBounds_toArray, List.set_cons_zero, List.set_cons_succ, List.getElem_toArray, List.getElem_cons_succ, List.getElem_cons_zero])
                          refine wpAnyG_ready (rs := [11]) (by kernel_rfl) (by simp) (AllG.cons rfl hG11 (fun K hK => ?_) AllG.nil)
                          (go_simp)
                          refine hK.out _ _ (Or.inl rfl) (fun hG12 => ?_); clear hK hG11; (try simp only [Act.put, List.setIfInBounds_toArray, List.set_cons_zero, List.set_cons_succ, List.getElem_toArray, List.getElem_cons_succ, List.getElem_cons_zero])
                          refine wpAnyG_done (by kernel_rfl) ?_ _; clear hG12
                          go_wp2
                          go_roundw
                          case rel => exact ⟨j + 1, by omega, by go_num, by repeat (first | exact Below.refl _ _ | refine below_dN ?_ _ | refine Below.drew ?_ | refine Below.alloc ?_ (by first | omega | (simp; done) | (simp; omega)) _ | refine Below.setCell ?_ (by first | omega | (simp; done) | (simp; omega)) _ | refine below_step (by assumption) (by first | omega | (simp; done) | (simp; omega)) ?_)⟩
                          case measure => simp [intOf]; omega
                        · obtain ⟨zn, hzn⟩ : ∃ zn, zn = z.num := ⟨_, rfl⟩
                          obtain ⟨zd, hzd⟩ : ∃ zd, zd = (z.den : Int) := ⟨_, rfl⟩
                          rw [← hzn, ← hzd] at h hz
                          obtain ⟨cv, hcv⟩ : ∃ cv, cv = cmpF zn zd (fv c j) (fx c j) := ⟨_, rfl⟩
                          have KC := Lib.hid (fun wx => (by have := cmp_any zn zd (fv c j) (fx c j) wx; rw [← hcv] at this; exact this : Calls Try.prog 18 #[.agg #[.int .i64 zn, .int .i64 zd], .agg #[.int .i64 (fv c j), .int .i64 (fx c j)]] wx fun e w' => e = .returned (.int .i64 cv) ∧ Below wx.heap.size wx w'))
                          rw [← hcv] at hz
                          have e1 : decide (cv < 0) = false := decide_eq_false (by omega)
                          rw [h] at K4
                          simp only [errV_0] at K4
                          have K4' := Lib.hid K4
                          clear K4 h hzn hzd hcv hz
                          go_wp2_with fail
                          refine K4'.out.mono ?_
                          rintro e w13 ⟨rfl, hb13⟩
                          have hb33 := hbel3.trans ((hbel4.trans (hb13.mono hbz4)).mono hbz3)
                          have z33 := hb33.size
                          have hP13 := hP4.up hb13
                          have B13 := Br4.trans (hb13.mono Br4.size)
                          have d3 := (B13.cell (p := ⟨b2, o2 + j * 2, none⟩) hb2).trans HC2.out.1
                          have d4 := (B13.cell (p := ⟨b2, o2 + j * 2 + 1, none⟩) hb2).trans HC2.out.2
                          have g2 : b2 < w13.heap.size := by have := B13.size; omega
                          clear hb13 p0 p1 p2 p3
                          have p0 := hP13.lt
                          have p1 := hP13.c0
                          have p2 := hP13.c1
                          have p3 := hP13.c2
                          go_wp2_with fail
                          refine wp_region_G 9 (fun w' => ∀ b o, w'.cell? ⟨b, o, none⟩ = if b < w13.heap.size + 1 then (w13.alloc (.cells #[.int .i64 zn, .int .i64 zd] 29)).cell? ⟨b, o, none⟩ else hidC w' b o) (by kernel_rfl) (cif (B := w13.heap.size + 1) (Below.refl _ _).drew) ?_
                          intro hG0
                          refine wpAnyG_any (i := 0) (v := ?_) rfl hG0 (by kernel_rfl) (by kernel_rfl) (by kernel_rfl) rfl (fun _ _ _ h => h) (Or.inl ⟨by rfl, ?_⟩) ?_; rotate_left; (intro wS hSw; (try dsimp only at hSw); first | (go_simp; done) | (go_simp; with_reducible rfl) | (simp [go_sem, ↓IntWalk.iteOmega, *]; done) | (simp [go_sem, ↓IntWalk.iteOmega, *]; with_reducible rfl)); (intro hG1); clear hG0; (try simp only [Act.put, List.setIfInBounds_toArray, List.set_cons_zero, List.set_cons_succ, List.getElem_toArray, List.getElem_cons_succ, List.getElem_cons_zero])
                          refine wpAnyG_any (i := 1) (v := ?_) rfl hG1 (by kernel_rfl) (by kernel_rfl) (by kernel_rfl) rfl (fun _ _ _ h => h) (Or.inl ⟨by rfl, ?_⟩) ?_; rotate_left; (intro wS hSw; (try dsimp only at hSw); first | (go_simp; done) | (go_simp; with_reducible rfl) | (simp [go_sem, ↓IntWalk.iteOmega, *]; done) | (simp [go_sem, ↓IntWalk.iteOmega, *]; with_reducible rfl)); (intro hG2); clear hG1; (try simp only [Act.put, List.setIfInBounds_toArray, List.set_cons_zero, List.set_cons_succ, List.getElem_toArray, List.getElem_cons_succ, List.getElem_cons_zero])
                          refine wpAnyG_any (i := 2) (v := .bool true) rfl hG2 (by kernel_rfl) (by kernel_rfl) (by kernel_rfl) rfl (fun _ _ _ h => h) (Or.inl ⟨by rfl, ?_⟩) ?_; (focus (intro wS hSw; (try dsimp only at hSw); (try go_simp); (try simp [go_sem, ↓IntWalk.iteOmega, *]))); (intro hG3); clear hG2; (try simp only [Act.put, List.setIfInBounds_toArray, List.set_cons_zero, List.set_cons_succ, List.getElem_toArray, List.getElem_cons_succ, List.getElem_cons_zero])
                          refine wpAnyG_take (i := 3) (v := ?_) rfl hG3 (by kernel_rfl) (by kernel_rfl) (by kernel_rfl) rfl (by kernel_rfl) (fun _ _ _ h => h) (Or.inl ⟨by rfl, ?_⟩) ?_; rotate_left; (intro wS hSw; (try dsimp only at hSw); first | (go_simp; done) | (go_simp; with_reducible rfl) | (simp [go_sem, ↓IntWalk.iteOmega, *]; done) | (simp [go_sem, ↓IntWalk.iteOmega, *]; with_reducible rfl)); (intro hG4); clear hG3; (try simp only [Act.put, List.setIfInBounds_toArray, List.set_cons_zero, List.set_cons_succ, List.getElem_toArray, List.getElem_cons_succ, List.getElem_cons_zero])
                          refine wpAnyG_any (i := 4) (v := ?_) rfl hG4 (by kernel_rfl) (by kernel_rfl) (by kernel_rfl) rfl (fun _ _ _ h => h) (Or.inl ⟨by rfl, ?_⟩) ?_; rotate_left; (intro wS hSw; (try dsimp only at hSw); first | (go_simp; done) | (go_simp; with_reducible rfl) | (simp [go_sem, ↓IntWalk.iteOmega, *]; done) | (simp [go_sem, ↓IntWalk.iteOmega, *]; with_reducible rfl)); (intro hG5); clear hG4; (try simp only [Act.put, List.setIfInBounds_toArray, List.set_cons_zero, List.set_cons_succ, List.getElem_toArray, List.getElem_cons_succ, List.getElem_cons_zero])
                          refine wpAnyG_take (i := 5) (v := ?_) rfl hG5 (by kernel_rfl) (by kernel_rfl) (by kernel_rfl) rfl (by kernel_rfl) (fun _ _ _ h => h) (Or.inl ⟨by rfl, ?_⟩) ?_; rotate_left; (intro wS hSw; (try dsimp only at hSw); first | (go_simp; done) | (go_simp; with_reducible rfl) | (simp [go_sem, ↓IntWalk.iteOmega, *]; done) | (simp [go_sem, ↓IntWalk.iteOmega, *]; with_reducible rfl)); (intro hG6); clear hG5; (try simp only [Act.put, List.setIfInBounds_toArray, List.set_cons_zero, List.set_cons_succ, List.getElem_toArray, List.getElem_cons_succ, List.getElem_cons_zero])
                          refine wpAnyG_any (i := 6) (v := ?_) rfl hG6 (by kernel_rfl) (by kernel_rfl) (by kernel_rfl) rfl (fun _ _ _ h => h) (Or.inl ⟨by rfl, ?_⟩) ?_; rotate_left; (intro wS hSw; (try dsimp only at hSw); first | (go_simp; done) | (go_simp; with_reducible rfl) | (simp [go_sem, ↓IntWalk.iteOmega, *]; done) | (simp [go_sem, ↓IntWalk.iteOmega, *]; with_reducible rfl)); (intro hG7); clear hG6; (try simp only [Act.put, List.setIfInBounds_toArray, List.set_cons_zero, List.set_cons_succ, List.getElem_toArray, List.getElem_cons_succ, List.getElem_cons_zero])
                          refine wpAnyG_any (i := 7) (v := ?_) rfl hG7 (by kernel_rfl) (by kernel_rfl) (by kernel_rfl) rfl (fun _ _ _ h => h) (Or.inl ⟨by rfl, ?_⟩) ?_; rotate_left; (intro wS hSw; (try dsimp only at hSw); first | (go_simp; done) | (go_simp; with_reducible rfl) | (simp [go_sem, ↓IntWalk.iteOmega, *]; done) | (simp [go_sem, ↓IntWalk.iteOmega, *]; with_reducible rfl)); (intro hG8); clear hG7; (try simp only [Act.put, List.setIfInBounds_toArray, List.set_cons_zero, List.set_cons_succ, List.getElem_toArray, List.getElem_cons_succ, List.getElem_cons_zero])
                          refine wpAnyG_take (i := 8) (v := ?_) rfl hG8 (by kernel_rfl) (by kernel_rfl) (by kernel_rfl) rfl (by kernel_rfl) (fun _ _ _ h => h) (Or.inl ⟨by rfl, ?_⟩) ?_; rotate_left; (intro wS hSw; (try dsimp only at hSw); first | (go_simp; done) | (go_simp; with_reducible rfl) | (simp [go_sem, ↓IntWalk.iteOmega, *]; done) | (simp [go_sem, ↓IntWalk.iteOmega, *]; with_reducible rfl)); (intro hG9); clear hG8; (try simp only [Act.put, List.setIfInBounds_toArray, List.set_cons_zero, List.set_cons_succ, List.getElem_toArray, List.getElem_cons_succ, List.getElem_cons_zero])
                          refine wpAnyG_ready (rs := [9]) (by kernel_rfl) (by simp) (AllG.cons rfl hG9 (fun K hK => ?_) AllG.nil)
                          refine (if_pos (by rfl)).mpr ?_
                          (go_simp; go_at_call 18; refine (KC.out _).mono ?_; rintro e w14 ⟨rfl, hb14⟩)
                          refine hK.out _ _ (Or.inl rfl) (fun hG10 => ?_); clear hK hG9; (try simp only [Act.put, List.setIfInBounds_toArray, List.set_cons_zero, List.set_cons_succ, List.getElem_toArray, List.getElem_cons_succ, List.getElem_cons_zero])
                          refine wpAnyG_any (i := 10) (v := ?_) rfl hG10 (by kernel_rfl) (by kernel_rfl) (by kernel_rfl) rfl (fun _ _ _ h => h) (Or.inl ⟨by rfl, ?_⟩) ?_; rotate_left; (intro wS hSw; (try dsimp only at hSw); first | (go_simp; done) | (go_simp; with_reducible rfl) | (simp [go_sem, ↓IntWalk.iteOmega, *]; done) | (simp [go_sem, ↓IntWalk.iteOmega, *]; with_reducible rfl)); (intro hG11); clear hG10; (try simp only [Act.put, List.setIfInBounds_toArray, List.set_cons_zero, List.set_cons_succ, List.getElem_toArray, List.getElem_cons_succ, List.getElem_cons_zero])
                          refine wpAnyG_any (i := 11) (v := ?_) rfl hG11 (by kernel_rfl) (by kernel_rfl) (by kernel_rfl) rfl (fun _ _ _ h => h) (Or.inl ⟨by rfl, ?_⟩) ?_; rotate_left; (intro wS hSw; (try dsimp only at hSw); first | (go_simp; done) | (go_simp; with_reducible rfl) | (simp [go_sem, ↓IntWalk.iteOmega, *]; done) | (simp [go_sem, ↓IntWalk.iteOmega, *]; with_reducible rfl)); (intro hG12); clear hG11; (try simp only [Act.put, List.setIfInBounds_toArray, List.set_cons_zero, List.set_cons_succ, List.getElem_toArray, List.getElem_cons_succ, List.getElem_cons_zero])
                          refine wpAnyG_done (by kernel_rfl) ?_ _; clear hG12
                          have hb34 := hb33.trans ((((Below.refl w13.heap.size w13).alloc (Nat.le_refl _) (.cells #[.int .i64 zn, .int .i64 zd] 29)).drew.trans (hb14.mono (by simp))).mono z33)
                          clear hb14
                          go_wp2
                          go_roundw
                          case rel => exact ⟨j + 1, by omega, by go_num, hb34⟩
                          case measure => simp [intOf]; omega
                  · obtain rfl : c.length = j := by omega
                    go_wp2
                    go_ret
                    exact ⟨rfl, Br3⟩

end Go.Proofs.Ytaomaopbdilmnaa

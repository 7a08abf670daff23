/- Texts laid together: VfP, VgP, VhA, VhB. -/
import Derived.Test.YtlkebhiaimijiaaGreatDoorBel
import Derived.Test.YtlkebhiaimijiaaGreatDoorVeD
import Derived.Test.YtlkebhiaimijiaaGreatDoorNgE
namespace Go.Proofs.YtlkebhiaimijiaaGreatDoor
set_option linter.unusedSimpArgs false
set_option linter.unusedVariables false
section
open Go Go.RowKit
set_option linter.unusedVariables false

/-- What Parse has made so far. -/
structure PaI (w : World) (R CB Q : Nat) (b : Int) (NA : Option Addr) (nc : Nat) (ns : List Ngd) (wr : World) : Prop where
 bel : Below w.heap.size w wr
 rbx : BxI wr R 41 #[.int .i64 0, .slice none 0 0]
 cbx : BxI wr CB 41 #[.int .i64 b, .slice NA ns.length nc]
 row : wr.ownsRow Q 97 2 (.slice NA ns.length nc) ns.length (ngC ns)
 fac : ∀ n ∈ ns, Fac wr (fun q => q < Q ∨ (Value.slice NA ns.length nc).ownBlock = some q) n.a n.l
section
variable {w wr w1 w2 : World} {R CB Q : Nat} {b : Int} {NA NA' : Option Addr} {nc nc' : Nat} {ns : List Ngd}
theorem PaI.up (h : PaI w R CB Q b NA nc ns wr) (k : Below wr.heap.size wr w1) : PaI w R CB Q b NA nc ns w1 :=
 ⟨h.bel.trans (k.mono h.bel.size), h.rbx.up k, h.cbx.up k, own_below h.row k, fun n hn => (h.fac n hn).up k⟩
theorem PaI.bound (h : PaI w R CB Q b NA nc ns wr) (hw : w.heap.size ≤ CB) (hR : R < CB) (hQ : CB < Q) (b' : Int) : PaI w R CB Q b' NA nc ns (wr.setCell ⟨CB, 0, none⟩ (.int .i64 b')) :=
 ⟨h.bel.setCell hw _, h.rbx.far (by show R ≠ CB; omega) _, h.cbx.set 0 _, own_set' h.row (fun e => by have e' : (Value.slice NA ns.length nc).ownBlock = some CB := e; have := (h.row.lt CB e').1; omega), fun n hn => (h.fac n hn).move (Moves.set (p := ⟨CB, 0, none⟩) _ (.inl hQ))⟩
/-- Another box written. -/
theorem PaI.oth (h : PaI w R CB Q b NA nc ns wr) {X : Nat} {i : Nat} (u : Value) (hw : w.heap.size ≤ X) (h1 : R ≠ X) (h2 : CB ≠ X) (h3 : (Value.slice NA ns.length nc).ownBlock ≠ some X) (hf : ∀ n ∈ ns, Fac wr (fun q => (q < Q ∨ (Value.slice NA ns.length nc).ownBlock = some q) ∨ q = X) n.a n.l) :
  PaI w R CB Q b NA nc ns (wr.setCell ⟨X, i, none⟩ u) ∧ ∀ n ∈ ns, Fac (wr.setCell ⟨X, i, none⟩ u) (fun q => (q < Q ∨ (Value.slice NA ns.length nc).ownBlock = some q) ∨ q = X) n.a n.l :=
 have hm : ∀ n ∈ ns, Fac (wr.setCell ⟨X, i, none⟩ u) (fun q => (q < Q ∨ (Value.slice NA ns.length nc).ownBlock = some q) ∨ q = X) n.a n.l := fun n hn => (hf n hn).move (Moves.set (p := ⟨X, i, none⟩) _ (.inr rfl))
 ⟨⟨h.bel.setCell hw _, h.rbx.far h1 _, h.cbx.far h2 _, own_set' h.row h3, fun n hn => (hm n hn).sub (fun _ _ h => .inl h)⟩, hm⟩
theorem PaI.push {n : Ngd} (h : PaI w R CB Q b NA nc ns wr) (hw : w.heap.size ≤ CB) (hR : R < CB) (hQ : CB < Q) (hQs : Q ≤ wr.heap.size) (u : Below wr.heap.size wr w1)
  (ho : w2.ownsRow Q 97 2 (.slice NA' (ns.length + 1) nc') (ns.length + 1) (ngC ns ++ [.slice n.a n.l.length n.c, .int .i64 n.d])) (hg : w1.grownBy w2 (Value.slice NA ns.length nc).ownBlock)
  (hat : (Value.slice NA' (ns.length + 1) nc').ownBlock = (Value.slice NA ns.length nc).ownBlock ∨ (Value.slice NA' (ns.length + 1) nc').ownBlock = some w1.heap.size)
  (hf : Fac wr (fun q => q < Q ∨ (Value.slice NA ns.length nc).ownBlock = some q) n.a n.l) :
  PaI w R CB Q b NA' nc' (ns ++ [n]) (w2.setCell ⟨CB, 1, none⟩ (.slice NA' (ns.length + 1) nc')) := by
 have h1 := h.up u
 have c2 : BxI w2 CB 41 #[.int .i64 b, .slice NA ns.length nc] := BxI.grown h1.cbx hg (own_ne_bx h1.row h1.cbx (by decide))
 have r2 : BxI w2 R 41 #[.int .i64 0, .slice none 0 0] := BxI.grown h1.rbx hg (own_ne_bx h1.row h1.rbx (by decide))
 have hll : (ns ++ [n]).length = ns.length + 1 := by simp
 have hz := u.size
 have m : Moves wr (w2.setCell ⟨CB, 1, none⟩ (.slice NA' (ns.length + 1) nc')) (fun q => q < Q ∨ (Value.slice NA ns.length nc).ownBlock = some q) (fun q => q < Q ∨ (Value.slice NA' (ns.length + 1) nc').ownBlock = some q) := by
  refine (Moves.up u).trans ((Moves.grown (bad' := fun q => q < Q ∨ (Value.slice NA' (ns.length + 1) nc').ownBlock = some q) hg (fun q hq => .inr hq) (fun q hq hb => ?_)).trans (Moves.set (p := ⟨CB, 1, none⟩) _ (.inl hQ)))
  rcases hb with hb | hb
  ·exact .inl hb
  ·rcases hat with e | e
   ·exact .inr (by rw [← e]; exact hb)
   ·rw [e] at hb; injection hb with hb; omega
 refine ⟨(h1.bel.grown hg h1.bel.size (fun q hq => Nat.le_trans (by omega) (h1.row.lt q hq).1)).setCell hw _, r2.far (by show R ≠ CB; omega) _, ?_, ?_, fun y hy => ?_⟩
 ·rw [hll]; exact c2.set 1 _
 ·rw [hll, ngC_app, ngC_one]
  refine own_set' ho fun e => ?_
  have e' : (Value.slice NA' (ns.length + 1) nc').ownBlock = some CB := e
  have := (ho.lt CB e').1
  omega
 ·rw [hll]
  rcases List.mem_append.1 hy with hy | hy
  ·exact (h.fac y hy).move m
  ·simp at hy; subst hy; exact hf.move m
theorem PaI.nls (h : PaI w R CB Q b NA nc ns wr) (hl : ns.length ≤ 1000000) : Nls wr (fun _ => False) NA ns := nls_own h.row hl (fun _ _ h => h) (fun n hn => (h.fac n hn).sub (fun _ _ h => h.elim))
theorem PaI.ret (h : PaI w R CB Q b NA nc ns wr) (hR : R < Q) (hl : ns.length ≤ 1000000) (u v : Value) : Nls ((wr.setCell ⟨R, 0, none⟩ u).setCell ⟨R, 1, none⟩ v) (fun _ => False) NA ns := by
 have hne : (Value.slice NA ns.length nc).ownBlock ≠ some R := fun e => by have := (h.row.lt R e).1; omega
 refine nls_own (own_set' (own_set' h.row hne) hne) hl (fun _ _ h => h) fun n hn => ?_
 have hf := (h.fac n hn).sub (bad' := fun b => b = R) (fun b _ hb => .inl (by rw [hb]; exact hR))
 have m1 : Moves wr (wr.setCell ⟨R, 0, none⟩ u) (fun b => b = R) (fun b => b = R) := Moves.set (bad := fun b => b = R) (p := ⟨R, 0, none⟩) u rfl
 have m2 : Moves (wr.setCell ⟨R, 0, none⟩ u) ((wr.setCell ⟨R, 0, none⟩ u).setCell ⟨R, 1, none⟩ v) (fun b => b = R) (fun b => b = R) := Moves.set (bad := fun b => b = R) (p := ⟨R, 1, none⟩) v rfl
 exact ((hf.move m1).move m2).sub (fun _ _ h => h.elim)
end
end

section
open Go Go.RowKit
set_option linter.unusedVariables false

theorem box_end {w : World} {X : Nat} {T : TypeId} {x y : Value} (h : BxI w X T #[x, y]) {i : Nat} (hi : 2 ≤ i) : w.cell? ⟨X, i, none⟩ = none := by
 have e : w.heap[X]? = some (.cells #[x, y] T) := h
 unfold World.cell?
 simp [e, hi]
theorem nls_box {w : World} {Y : Nat} {T : TypeId} {z : Int} {A' : Option Addr} {n' c' : Nat} {NA : Option Addr} {ns : List Ngd} (hX : BxI w Y T #[.int .i64 z, .slice A' n' c']) (h : Nls w (fun _ => False) NA ns) : Nls w (fun q => q = Y) NA ns := by
 have e0 := hX.cell 0 (.int .i64 z) rfl
 have e1 := hX.cell 1 (.slice A' n' c') rfl
 refine ⟨h.1, fun hn => ?_, fun f hf => ⟨(h.2.2 f hf).1, fun hn => ?_⟩⟩
 ·obtain ⟨b, off, e, hb, _, hc⟩ := h.2.1 hn
  refine ⟨b, off, e, hb, fun hq => ?_, hc⟩
  subst hq
  obtain ⟨h0, h1⟩ := hc 0 hn
  rw [Nat.zero_mul, Nat.add_zero] at h0 h1
  rcases off with _ | _ | off
  ·rw [e0] at h0; cases h0
  ·rw [box_end hX (by omega)] at h1; cases h1
  ·rw [box_end hX (by omega)] at h0; cases h0
 ·obtain ⟨b, off, e, hb, _, hc⟩ := (h.2.2 f hf).2 hn
  refine ⟨b, off, e, hb, fun hq => ?_, hc⟩
  subst hq
  obtain ⟨h0, h1⟩ := hc 0 hn
  rw [Nat.zero_mul, Nat.add_zero] at h0 h1
  rcases off with _ | _ | off
  ·rw [e1] at h1; cases h1
  ·rw [e1] at h0; cases h0
  ·rw [box_end hX (by omega)] at h0; cases h0
theorem nls_set {w : World} {Y : Nat} {NA : Option Addr} {ns : List Ngd} (h : Nls w (fun q => q = Y) NA ns) (i : Nat) (u : Value) : Nls (w.setCell ⟨Y, i, none⟩ u) (fun q => q = Y) NA ns :=
 h.move (Moves.set (bad := fun q => q = Y) (p := ⟨Y, i, none⟩) u rfl)
end

section
open Go Go.RowKit
set_option linter.unusedVariables false

theorem nogs_app {a b : List Ngd} : nogs (a ++ b) = nogs a ++ nogs b := by unfold nogs; rw [List.map_append]
theorem nogs_len {a : List Ngd} : (nogs a).length = a.length := by unfold nogs; rw [List.length_map]
/-- What copied returns: a certificate of its own. -/
def CpRet (w : World) (b : Int) (ns : List Ngd) (e : Ending) (w' : World) : Prop :=
 ∃ (NA : Option Addr) (nc : Nat) (ms : List Ngd), e = .returned (.agg #[.int .i64 b, .slice NA ms.length nc]) ∧ nogs ms = nogs ns ∧ ∃ Q, w.heap.size ≤ Q ∧ Q ≤ w'.heap.size ∧ w'.ownsRow Q 97 2 (.slice NA ms.length nc) ms.length (ngC ms) ∧ ∀ n ∈ ms, Fac w' (fun q => q < Q ∨ (Value.slice NA ms.length nc).ownBlock = some q) n.a n.l

set_option maxRecDepth 20000 in
set_option maxHeartbeats 16000000 in
theorem ccopied_any (b : Int) (ns : List Ngd) (A : Option Addr) (c : Nat) (w : World) (h : Nls w (fun _ => False) A ns) (hl : ns.length ≤ 900000) (hm : ∀ n ∈ ns, n.l.length ≤ 1000000) :
  Calls Tryz.prog 41 #[.agg #[.int .i64 b, .slice A ns.length c]] w fun e w' => CpRet w b ns e w' ∧ Below w.heap.size w w' := by
 obtain ⟨inf, hinf, iz0, iz1, iz2⟩ := info_parts sinfN
 obtain ⟨W0, hW0⟩ : ∃ W0, W0 = w.alloc (.cells #[.int .i64 b, .slice A ns.length c] 41) := ⟨_, rfl⟩
 have HB0 := Lib.hid (show Below w.heap.size w W0 by rw [hW0]; exact (Below.refl _ _).alloc (Nat.le_refl _) _)
 obtain ⟨R, hR⟩ : ∃ R, R = w.heap.size + 1 := ⟨_, rfl⟩
 obtain ⟨CB, hCB⟩ : ∃ CB, CB = w.heap.size + 1 + 1 := ⟨_, rfl⟩
 have hz0 : W0.heap.size = w.heap.size + 1 := by rw [hW0]; simp
 obtain ⟨W1, hW1⟩ : ∃ W1, W1 = W0.alloc (.cells #[.int .i64 0, .slice none 0 0] 41) := ⟨_, rfl⟩
 have HB1 := Lib.hid (show Below W0.heap.size W0 W1 by rw [hW1]; exact (Below.refl _ _).alloc (Nat.le_refl _) _)
 have HR1 := Lib.hid (show BxI W1 R 41 #[.int .i64 0, .slice none 0 0] by rw [hW1, hR, ← hz0]; exact BxI.new _ _ _)
 have hz1 : W1.heap.size = w.heap.size + 1 + 1 := by rw [hW1]; simp [hz0]
 obtain ⟨W2, hW2⟩ : ∃ W2, W2 = W1.alloc (.cells #[.int .i64 b, .slice none 0 0] 41) := ⟨_, rfl⟩
 have HB2 := Lib.hid (show Below W1.heap.size W1 W2 by rw [hW2]; exact (Below.refl _ _).alloc (Nat.le_refl _) _)
 have HC2 := Lib.hid (show BxI W2 CB 41 #[.int .i64 b, .slice none 0 0] by rw [hW2, hCB, ← hz1]; exact BxI.new _ _ _)
 obtain ⟨Q, hQ⟩ : ∃ Q, Q = W2.heap.size := ⟨_, rfl⟩
 have hCQ : CB < Q := by rw [hQ]; exact HC2.out.lt
 have hRC : R < CB := by omega
 have hwR : w.heap.size ≤ R := by omega
 have hBw : Below w.heap.size w W2 := HB0.out.trans ((HB1.out.trans (HB2.out.mono HB1.out.size)).mono HB0.out.size)
 have HI2 := Lib.hid (show PaI w R CB Q b none 0 [] W2 from ⟨hBw, HR1.out.up HB2.out, HC2.out, World.ownsRow_nil _ _ _ _, fun n hn => by cases hn⟩)
 have HN := Lib.hid h
 have HM := Lib.hid hm
 have HP := Lib.hid (show BxI W0 w.heap.size 41 #[.int .i64 b, .slice A ns.length c] by rw [hW0]; exact BxI.new _ _ _)
 have HP2 := Lib.hid ((HP.out.up HB1.out).up HB2.out)
 have hQz : Q ≤ W2.heap.size := by omega
 have p1 := HP2.out.cell 1 (.slice A ns.length c) rfl
 have hPl := HP2.out.lt
 clear h hm hBw hz0 hz1
 go_enter Tryz.func41, Tryz.ntmps41
 go_wp2_with fail
 rw [← hW0, ← hW1, ← hW2, ← hCB, ← hR]
 have HW := Lib.hid (And.intro hW0 (And.intro hW1 hW2))
 have HQ := Lib.hid (And.intro hQ (And.intro hR hCB))
 clear hW0 hW1 hW2 hQ hR hCB
 go_loopw [12] (fun v12 wr => ∃ (i : Nat) (NA : Option Addr) (nc : Nat) (ms : List Ngd), v12 = .int .i64 i ∧ i ≤ ns.length ∧ ms.length ≤ i ∧ Q ≤ wr.heap.size ∧ Hid (nogs ms = nogs (ns.take i)) ∧ Hid (PaI w R CB Q b NA nc ms wr)) (fun v12 _ => ns.length - (intOf v12).toNat)
 case atStart => exact ⟨0, none, 0, [], rfl, by omega, Nat.le_refl _, hQz, Lib.hid rfl, HI2⟩
 case round =>
  clear HI2 hQz p1
  obtain ⟨i, NA, nc, ms, rfl, hi, hmi, hQt, HG, HI⟩ := hrel
  obtain ⟨wt, rfl⟩ : ∃ wt : World, wt = wr := ⟨_, rfl⟩
  have hwt := HI.out.bel.size
  by_cases hlt : i < ns.length
  ·have HNt := Lib.hid (HN.out.up HI.out.bel)
   obtain ⟨cb, off, rfl, hcb, d0, d1⟩ := HNt.out.at_ hlt
   obtain ⟨n, hn⟩ : ∃ n, n = ng ns i := ⟨_, rfl⟩
   have hfn : Fac wt (fun _ => False) n.a n.l := by rw [hn]; exact HNt.out.fac hlt
   have hln : n.l.length ≤ 1000000 := by rw [hn]; exact HM.out _ (ng_mem hlt)
   rw [← hn] at d0 d1
   have HNI := Lib.hid hn
   obtain ⟨NB, hNB⟩ : ∃ NB, NB = wt.heap.size := ⟨_, rfl⟩
   obtain ⟨W5, hW5⟩ : ∃ W5, W5 = wt.alloc (.cells #[.slice n.a n.l.length n.c, .int .i64 n.d] 97) := ⟨_, rfl⟩
   have HB5 := Lib.hid (show Below wt.heap.size wt W5 by rw [hW5]; exact (Below.refl _ _).alloc (Nat.le_refl _) _)
   have HN5 := Lib.hid (show BxI W5 NB 97 #[.slice n.a n.l.length n.c, .int .i64 n.d] by rw [hW5, hNB]; exact BxI.new _ _ _)
   have HI5 := Lib.hid (HI.out.up HB5.out)
   have HF5 := Lib.hid (hfn.up HB5.out)
   have HCL := Lib.hid (fun W (hb : Below W5.heap.size W5 W) => cloneFac_any n.l n.a n.c W ((HF5.out.up hb).at_) hln)
   have hz5 := HB5.out.size
   clear hn hfn HNt
   go_wp2_with fail
   rw [← hW5, ← hNB]
   have HW5 := Lib.hid (And.intro hW5 hNB)
   clear hW5 hNB d0 d1 hcb
   have n0 := HN5.out.cell 0 (.slice n.a n.l.length n.c) rfl
   have n1 := HN5.out.cell 1 (.int .i64 n.d) rfl
   have hNl := HN5.out.lt
   have c1 := HI5.out.cbx.cell 1 (.slice NA ms.length nc) rfl
   have hCl := HI5.out.cbx.lt
   have hCN : CB < W5.heap.size := hCl
   have hQ5 : Q ≤ W5.heap.size := by omega
   have hmm : ms.length ≤ 900000 := by omega
   refine wp_region_G 9 (fun w' => ∀ b o, w'.cell? ⟨b, o, none⟩ = if b < W5.heap.size then W5.cell? ⟨b, o, none⟩ else hidC w' b o) (by kernel_rfl) (cif (B := W5.heap.size) (W := W5) (Below.refl _ _).drew) ?_
   intro hG0
   refine wpS1 0 hG0 ?_; intro hG1; clear hG0
   refine wpS2 1 hG1 ?_; intro hG2; clear hG1
   refine wpS1 2 hG2 ?_; intro hG3; clear hG2
   refine wpS2 3 hG3 ?_; intro hG4; clear hG3
   refine wpS1 5 hG4 ?_; intro hG5; clear hG4
   refine wpS2 6 hG5 ?_; intro hG6; clear hG5
   refine wpAnyG_ready (rs := [4]) (by kernel_rfl) (by simp) (AllG.cons rfl hG6 (fun K hK => ?_) AllG.nil)
   (go_simp; go_at_call 33; refine (HCL.out _ (by exact bel)).mono ?_; rintro e w6 ⟨⟨A6, c6, rfl, hown6⟩, hb6⟩; have HB6 := Lib.hid (show Below W5.heap.size W5 w6 from (Below.refl _ _).drew.trans hb6); have HO6 := Lib.hid (show w6.ownsRow W5.heap.size 68 2 (.slice A6 n.l.length c6) n.l.length (fcs n.l) from hown6); have HI6 := Lib.hid (HI5.out.up HB6.out); have hz6 := HB6.out.size; clear hb6 hown6)
   refine hK.out _ _ (Or.inr (cif (by exact bel))) (fun hG7 => wpN ?_); clear hK hG6
   refine wpS1 7 hG7 ?_; intro hG8; clear hG7
   refine wpAnyG_ready (rs := [8]) (by kernel_rfl) (by simp) (AllG.cons rfl hG8 (fun K hK => ?_) AllG.nil)
   (go_simp)
   refine hK.out _ _ (Or.inr (cif (by exact bel))) (fun hG9 => wpN ?_); clear hK hG8
   refine wpAnyG_ready (rs := [9]) (by kernel_rfl) (by simp) (AllG.cons rfl hG9 (fun K hK => ?_) AllG.nil)
   (refine step_append_src (by rfl) _ _ 39 (by rfl) Q 97 inf (.agg #[.slice none 0 0, .int .i64 0]) 2 32 sundN hinf iz0 iz1 iz2 rfl (by decide) (.slice NA ms.length nc) ms.length (ngC ms) (by rfl) (by exact HI6.out.row.alloc _) (some ⟨w6.heap.size, 0, none⟩) 1 1 [.slice A6 n.l.length c6, .int .i64 n.d] (by rfl) (src_of (heap_alloc_new w6 _) rfl (by intro u hu; simp at hu; rcases hu with rfl | rfl <;> rfl)) (by unfold maxLen; omega) (by omega) (by first | omega | (simp; done) | (simp; omega)) ?_; intro v9 w9 hown9 hgrow9 hat9; obtain ⟨A9, c9, rfl⟩ := own_shape hown9; have HO9 := Lib.hid hown9; have HG9 := Lib.hid hgrow9; have HA9 := Lib.hid hat9; have HU9 := Lib.hid (show Below w6.heap.size w6 (w6.alloc (.cells #[.slice A6 n.l.length c6, .int .i64 n.d] 97)) from (Below.refl _ _).alloc (Nat.le_refl _) _); have HC9 := Lib.hid (show BxI w9 CB 41 #[.int .i64 b, .slice NA ms.length nc] from BxI.grown (HI6.out.cbx.up HU9.out) HG9.out (own_ne_bx (own_below HI6.out.row HU9.out) (HI6.out.cbx.up HU9.out) (by decide))); clear hown9 hgrow9 hat9)
   refine hK.out _ _ (Or.inl rfl) (fun hG10 => wpN ?_); clear hK hG9
   refine wpS1 10 hG10 ?_; intro hG11; clear hG10
   refine wpAnyG_ready (rs := [11]) (by kernel_rfl) (by simp) (AllG.cons rfl hG11 (fun K hK => ?_) AllG.nil)
   (refine step_store1 (by rfl) 39 _ _ (by rfl) CB 1 (.slice A9 (ms.length + 1) c9) rfl (by rfl) (by rfl) (there_blk HC9.out (Nat.le_refl 2)) (by kernel_rfl) rfl ?_; intro wy HWY)
   refine hK.out _ _ (Or.inl rfl) (fun hG12 => wpN ?_); clear hK hG11
   refine wpAnyG_done (by kernel_rfl) ?_ _; clear hG12
   have HF6 := Lib.hid (show Fac w6 (fun q => q < Q ∨ (Value.slice NA ms.length nc).ownBlock = some q) A6 n.l by
    obtain ⟨A', c', e, hf⟩ := own_facV (bad := fun q => q < Q ∨ (Value.slice NA ms.length nc).ownBlock = some q) HO6.out (by omega) fun g hg hb => by
     have h1 := (HO6.out.lt g hg).1
     rcases hb with hb | hb
     ·omega
     ·have := (HI5.out.row.lt g hb).2; omega
    simp only [Value.slice.injEq] at e
    obtain ⟨rfl, _, rfl⟩ := e
    exact hf)
   have HI8 := Lib.hid (HI6.out.push (n := ⟨A6, c6, n.l, n.d⟩) (by omega) hRC hCQ (by omega) HU9.out HO9.out HG9.out HA9.out HF6.out)
   rw [← HWY.out] at HI8
   have HG8 := Lib.hid (show nogs (ms ++ [⟨A6, c6, n.l, n.d⟩]) = nogs (ns.take (i + 1)) by
    rw [take_ng hlt, nogs_app, nogs_app, HG.out, HNI.out]; rfl)
   have hzy : Q ≤ wy.heap.size := by
    rw [HWY.out]
    have h1 := HU9.out.size
    have h2 := HG9.out.size
    have h3 : (w9.setCell ⟨CB, 1, none⟩ (.slice A9 (ms.length + 1) c9)).heap.size = w9.heap.size := by simp [World.setCell]
    omega
   clear HWY HF6 HO9 HG9 HA9 HC9 HU9
   go_wp2
   go_roundw
   case rel => exact ⟨i + 1, A9, c9, ms ++ [⟨A6, c6, n.l, n.d⟩], by go_num, by omega, by simp; omega, hzy, HG8, HI8⟩
   case measure => simp [intOf]; omega
  ·have c0 := HI.out.cbx.cell 0 (.int .i64 b) rfl
   have c1 := HI.out.cbx.cell 1 (.slice NA ms.length nc) rfl
   have r0 := HI.out.rbx.cell 0 (.int .i64 0) rfl
   have r1 := HI.out.rbx.cell 1 (.slice none 0 0) rfl
   have rf0 := HI.out.rbx.fz 0
   have rf1 := HI.out.rbx.fz 1
   have hCl := HI.out.cbx.lt
   have hRl := HI.out.rbx.lt
   have HZ := Lib.hid (ret_cells (u := .int .i64 b) (v := .slice NA ms.length nc) HI.out.rbx)
   have HBZ := Lib.hid (show Below w.heap.size w ((wt.setCell ⟨R, 0, none⟩ (.int .i64 b)).setCell ⟨R, 1, none⟩ (.slice NA ms.length nc)) from ret_below HI.out.bel hwR)
   have hne : (Value.slice NA ms.length nc).ownBlock ≠ some R := fun e => by have := (HI.out.row.lt R e).1; omega
   have HO := Lib.hid (show ((wt.setCell ⟨R, 0, none⟩ (.int .i64 b)).setCell ⟨R, 1, none⟩ (.slice NA ms.length nc)).ownsRow Q 97 2 (.slice NA ms.length nc) ms.length (ngC ms) from own_set' (own_set' HI.out.row hne) hne)
   have HFF := Lib.hid (show ∀ n ∈ ms, Fac ((wt.setCell ⟨R, 0, none⟩ (.int .i64 b)).setCell ⟨R, 1, none⟩ (.slice NA ms.length nc)) (fun q => q < Q ∨ (Value.slice NA ms.length nc).ownBlock = some q) n.a n.l from fun n hn =>
    ((HI.out.fac n hn).move (Moves.set (bad := fun q => q < Q ∨ (Value.slice NA ms.length nc).ownBlock = some q) (p := ⟨R, 0, none⟩) _ (.inl (by show R < Q; omega)))).move (Moves.set (bad := fun q => q < Q ∨ (Value.slice NA ms.length nc).ownBlock = some q) (p := ⟨R, 1, none⟩) _ (.inl (by show R < Q; omega))))
   have HG2 := Lib.hid (show nogs ms = nogs ns by rw [HG.out, List.take_of_length_le (by omega)])
   have hQw : w.heap.size ≤ Q := by omega
   have HQE := Lib.hid (show Q ≤ ((wt.setCell ⟨R, 0, none⟩ (.int .i64 b)).setCell ⟨R, 1, none⟩ (.slice NA ms.length nc)).heap.size by simp [World.setCell]; exact hQt)
   clear hne
   go_wp2
   have z0 := HZ.out.1
   have z1 := HZ.out.2
   refine bodyPost_ret (v := .agg #[.int .i64 b, .slice NA ms.length nc]) (by simp [results, Tryz.results41, go_sem, z0, z1]) rfl ⟨⟨NA, nc, ms, rfl, HG2.out, Q, hQw, HQE.out, HO.out, HFF.out⟩, HBZ.out⟩
end

section
open Go Go.RowKit
set_option linter.unusedVariables false

theorem src_own {w : World} {B n c : Nat} {A : Option Addr} {e : TypeId} {xs : List Value} (h : w.ownsRow B e 2 (.slice A n c) n xs) (hl : xs.length = n * 2) (h1 : ∀ u ∈ xs, u.oneCell' = true) : SrcAt w A n c 2 xs where
 none := fun e => by
  subst e
  rcases h.2 with ⟨h0, _⟩ | ⟨g, cap, cur, e2, _⟩
  ·simpa using h0
  ·cases e2
 len := hl
 cells := fun ad e j u hj => by
  subst e
  rcases id h.2 with ⟨h0, _⟩ | ⟨g, cap, cur, e2, _⟩
  ·cases h0
  ·simp only [Value.slice.injEq, Option.some.injEq] at e2
   obtain ⟨rfl, _, rfl⟩ := e2
   have := own_cell h hj
   by_cases h0 : j = 0
   ·subst h0; simpa [Addr.add] using this
   ·simpa [Addr.add, h0] using this
 one := h1
theorem ngC_one' {ns : List Ngd} : ∀ u ∈ ngC ns, u.oneCell' = true := fun u hu => by
 unfold ngC at hu
 obtain ⟨n, _, hn⟩ := List.mem_flatMap.1 hu
 simp at hn
 rcases hn with rfl | rfl <;> rfl
theorem ngC_len (ns : List Ngd) : (ngC ns).length = ns.length * 2 := by
 induction ns with
 | nil => rfl
 | cons n r ih =>
  have : ngC (n :: r) = ngC [n] ++ ngC r := by rw [← ngC_app]; rfl
  rw [this, List.length_append, ih, ngC_one]
  simp; omega
theorem chk_nogs {b : Int} {ns ms : List Ngd} (h : nogs ms = nogs ns) : chkN b ms = chkN b ns := by
 have hl : ms.length = ns.length := by rw [← nogs_len, h, nogs_len]
 have hk : ∀ k, k < ms.length → (ng ms k).l = (ng ns k).l ∧ (ng ms k).d = (ng ns k).d := fun k hk => by
  have e : (nogs ms)[k]? = (nogs ns)[k]? := by rw [h]
  unfold nogs at e
  rw [List.getElem?_map, List.getElem?_map, List.getElem?_eq_getElem hk, List.getElem?_eq_getElem (show k < ns.length by omega)] at e
  simp only [Option.map_some, Option.some.injEq, Nog.mk.injEq] at e
  unfold ng
  simp only [List.getD, List.getElem?_eq_getElem hk, List.getElem?_eq_getElem (show k < ns.length by omega), Option.getD_some]
  exact e
 have any : ∀ (f g : Nat → Bool), (∀ k, k < ms.length → f k = g k) → anyB ms.length f = anyB ns.length g := fun f g hfg => by
  rw [← hl]
  cases e : anyB ms.length g
  ·rw [anyB_false] at e ⊢
   exact fun k hk => by rw [hfg k hk]; exact e k hk
  ·cases e2 : anyB ms.length f
   ·rw [anyB_false] at e2
    have : anyB ms.length g = false := by rw [anyB_false]; exact fun k hk => by rw [← hfg k hk]; exact e2 k hk
    rw [this] at e; cases e
   ·rfl
 unfold chkN
 rw [any (fun k => !fmB (ng ms k).l) (fun k => !fmB (ng ns k).l) (fun k hk' => by rw [(hk k hk').1]), any (fun k => dsB b (ng ms k).d) (fun k => dsB b (ng ns k).d) (fun k hk' => by rw [(hk k hk').2]), hl]
/-- What Join returns, if all is well. -/
def JnRet (b : Int) (ns ms : List Ngd) (e : Ending) (w' : World) : Prop :=
 ∃ (NA : Option Addr) (nc : Nat) (rs : List Ngd), e = .returned (.tuple #[.agg #[.int .i64 b, .slice NA rs.length nc], .nilIface]) ∧ Nls w' (fun _ => False) NA rs ∧ nogs rs = nogs ns ++ nogs ms

set_option maxRecDepth 20000 in
set_option maxHeartbeats 16000000 in
theorem join_any (b : Int) (ns ms : List Ngd) (A A' : Option Addr) (c c' : Nat) (w : World) (h1 : Nls w (fun _ => False) A ns) (h2 : Nls w (fun _ => False) A' ms) (k1 : chkN b ns = 0) (k2 : chkN b ms = 0) (hl : ns.length + ms.length ≤ 4096) (l1 : ∀ n ∈ ns, n.l.length ≤ 1000000) (l2 : ∀ n ∈ ms, n.l.length ≤ 1000000) :
  Calls Tryz.prog 14 #[.agg #[.int .i64 b, .slice A ns.length c], .agg #[.int .i64 b, .slice A' ms.length c']] w fun e w' => JnRet b ns ms e w' ∧ Below w.heap.size w w' := by
 obtain ⟨inf, hinf, iz0, iz1, iz2⟩ := info_parts sinfN
 obtain ⟨W0, hW0⟩ : ∃ W0, W0 = w.alloc (.cells #[.int .i64 b, .slice A ns.length c] 41) := ⟨_, rfl⟩
 obtain ⟨W1, hW1⟩ : ∃ W1, W1 = W0.alloc (.cells #[.int .i64 b, .slice A' ms.length c'] 41) := ⟨_, rfl⟩
 obtain ⟨W2, hW2⟩ : ∃ W2, W2 = W1.alloc (.cells #[.int .i64 0, .slice none 0 0] 41) := ⟨_, rfl⟩
 have hz0 : W0.heap.size = w.heap.size + 1 := by rw [hW0]; simp
 have hz1 : W1.heap.size = w.heap.size + 1 + 1 := by rw [hW1]; simp [hz0]
 have hz2 : W2.heap.size = w.heap.size + 1 + 1 + 1 := by rw [hW2]; simp [hz1]
 have hb0 : Below w.heap.size w W0 := by rw [hW0]; exact (Below.refl _ _).alloc (Nat.le_refl _) _
 have hb1 : Below W0.heap.size W0 W1 := by rw [hW1]; exact (Below.refl _ _).alloc (Nat.le_refl _) _
 have hb2 : Below W1.heap.size W1 W2 := by rw [hW2]; exact (Below.refl _ _).alloc (Nat.le_refl _) _
 obtain ⟨P, hP⟩ : ∃ P, P = w.heap.size + 1 := ⟨_, rfl⟩
 obtain ⟨R, hR⟩ : ∃ R, R = w.heap.size + 1 + 1 := ⟨_, rfl⟩
 have HX := Lib.hid (show BxI W2 w.heap.size 41 #[.int .i64 b, .slice A ns.length c] from ((show BxI W0 w.heap.size 41 #[.int .i64 b, .slice A ns.length c] by rw [hW0]; exact BxI.new _ _ _).up hb1).up hb2)
 have HP := Lib.hid (show BxI W2 P 41 #[.int .i64 b, .slice A' ms.length c'] from (show BxI W1 P 41 #[.int .i64 b, .slice A' ms.length c'] by rw [hW1, hP, ← hz0]; exact BxI.new _ _ _).up hb2)
 have HR := Lib.hid (show BxI W2 R 41 #[.int .i64 0, .slice none 0 0] by rw [hW2, hR, ← hz1]; exact BxI.new _ _ _)
 have HBw := Lib.hid (show Below w.heap.size w W2 from hb0.trans ((hb1.trans (hb2.mono hb1.size)).mono hb0.size))
 have HN1 := Lib.hid (h1.up HBw.out)
 have HN2 := Lib.hid (h2.up HBw.out)
 have HK1 := Lib.hid k1
 have HK2 := Lib.hid k2
 have HL1 := Lib.hid l1
 have HL2 := Lib.hid l2
 have hPR : P < R := by omega
 have hwP : w.heap.size < P := by omega
 have hR2 : R < W2.heap.size := by omega
 have x0 := HX.out.cell 0 (.int .i64 b) rfl
 have x1 := HX.out.cell 1 (.slice A ns.length c) rfl
 have hXl := HX.out.lt
 clear h1 h2 k1 k2 l1 l2 hb0 hb1 hb2
 go_enter Tryz.func14, Tryz.ntmps14
 go_wp2_with fail
 rw [← hW0, ← hW1, ← hW2, ← hR, ← hP]
 have HW := Lib.hid (And.intro hW0 (And.intro hW1 hW2))
 have HPR := Lib.hid (And.intro hP hR)
 clear hW0 hW1 hW2 hP hR hz0 hz1 hz2
 have K1 := ccheck_any b ns A c W2 HN1.out
 rw [HK1.out, erV_0] at K1
 refine K1.mono ?_
 rintro e w3 ⟨rfl, hb3⟩
 have HX3 := Lib.hid (HX.out.up hb3)
 have HP3 := Lib.hid (HP.out.up hb3)
 have HR3 := Lib.hid (HR.out.up hb3)
 have HN13 := Lib.hid (HN1.out.up hb3)
 have HN23 := Lib.hid (HN2.out.up hb3)
 have HBw3 := Lib.hid (HBw.out.trans (hb3.mono HBw.out.size))
 have hz3 := hb3.size
 have K2 := ccheck_any b ms A' c' w3 HN23.out
 rw [HK2.out, erV_0] at K2
 have HC2 := Lib.hid K2
 have p0 := HP3.out.cell 0 (.int .i64 b) rfl
 have p1 := HP3.out.cell 1 (.slice A' ms.length c') rfl
 have hPl := HP3.out.lt
 clear hb3 K1 K2 x0 x1 hXl
 go_wp2_with fail
 refine HC2.out.mono ?_
 rintro e w4 ⟨rfl, hb4⟩
 have HX4 := Lib.hid (HX3.out.up hb4)
 have HP4 := Lib.hid (HP3.out.up hb4)
 have HR4 := Lib.hid (HR3.out.up hb4)
 have HN14 := Lib.hid (HN13.out.up hb4)
 have HN24 := Lib.hid (HN23.out.up hb4)
 have HBw4 := Lib.hid (HBw3.out.trans (hb4.mono HBw3.out.size))
 have hz4 := hb4.size
 have KC := Lib.hid (ccopied_any b ns A c w4 HN14.out (by omega) HL1.out)
 clear hb4 p0 p1 hPl HC2
 have x0 := HX4.out.cell 0 (.int .i64 b) rfl
 have x1 := HX4.out.cell 1 (.slice A ns.length c) rfl
 have hXl := HX4.out.lt
 have p0 := HP4.out.cell 0 (.int .i64 b) rfl
 have p1 := HP4.out.cell 1 (.slice A' ms.length c') rfl
 have hPl := HP4.out.lt
 go_wp2_with fail
 refine KC.out.mono ?_
 rintro e w5 ⟨⟨NA, nc, ns', rfl, hg1, Q1, hQ1, hQ1b, ho1, hf1⟩, hb5⟩
 have hln : ns'.length ≤ 4096 := by rw [← nogs_len, hg1, nogs_len]; omega
 have hlm : ns'.length + ms.length ≤ 4096 := by rw [← nogs_len, hg1, nogs_len]; omega
 obtain ⟨CB, hCB⟩ : ∃ CB, CB = w5.heap.size := ⟨_, rfl⟩
 obtain ⟨W6, hW6⟩ : ∃ W6, W6 = w5.alloc (.cells #[.int .i64 b, .slice NA ns'.length nc] 41) := ⟨_, rfl⟩
 have hb56 : Below w5.heap.size w5 W6 := by rw [hW6]; exact (Below.refl _ _).alloc (Nat.le_refl _) _
 have HC6 := Lib.hid (show BxI W6 CB 41 #[.int .i64 b, .slice NA ns'.length nc] by rw [hW6, hCB]; exact BxI.new _ _ _)
 have HP6 := Lib.hid ((HP4.out.up hb5).up hb56)
 have HR6 := Lib.hid ((HR4.out.up hb5).up hb56)
 have HN26 := Lib.hid ((HN24.out.up hb5).up hb56)
 have HBw6 := Lib.hid (HBw4.out.trans ((hb5.trans (hb56.mono hb5.size)).mono HBw4.out.size))
 have HO6 := Lib.hid (own_below ho1 hb56)
 have HF6 := Lib.hid (show ∀ n ∈ ns', Fac W6 (fun q => (q < Q1 ∨ (Value.slice NA ns'.length nc).ownBlock = some q) ∨ q = CB) n.a n.l from fun n hn =>
  ((hf1 n hn).move (bad' := fun q => (q < Q1 ∨ (Value.slice NA ns'.length nc).ownBlock = some q) ∨ q = CB) ⟨Nat.le_refl _, fun _ _ _ => rfl, fun q hq h => h.elim id (fun h => by omega)⟩).up hb56)
 have HRN := Lib.hid (show ∀ q, (Value.slice NA ns'.length nc).ownBlock = some q → q < CB from fun q hq => by rw [hCB]; exact (ho1.lt q hq).2)
 have HG1 := Lib.hid hg1
 have hz5 := hb5.size
 have hz56 := hb56.size
 have hC6 := HC6.out.lt
 have hQC : Q1 ≤ W6.heap.size := by omega
 have hRC : R < CB := by omega
 have hRQ : R < Q1 := by omega
 have hwQ : w.heap.size ≤ Q1 := Nat.le_trans HBw4.out.size hQ1
 have hwC : w.heap.size ≤ CB := by omega
 clear hg1 ho1 hf1 hb5 hb56 x0 x1 hXl p0 p1 hPl KC
 have c0 := HC6.out.cell 0 (.int .i64 b) rfl
 have c1 := HC6.out.cell 1 (.slice NA ns'.length nc) rfl
 have p0 := HP6.out.cell 0 (.int .i64 b) rfl
 have p1 := HP6.out.cell 1 (.slice A' ms.length c') rfl
 have hPl := HP6.out.lt
 go_wp2_with fail
 rw [← hW6, ← hCB]
 have HW6 := Lib.hid (And.intro hW6 hCB)
 clear hW6 hCB
 have KC2 := Lib.hid (fun W (k : Below W6.heap.size W6 W) => ccopied_any b ms A' c' W (HN26.out.up k) (by omega) HL2.out)
 have hCl := HC6.out.lt
 have hfd : ∀ (W : World) (X : Option Addr) (n k : Nat), (Instr.field 41 (.agg #[.int .i64 b, .slice X n k]) 1).run Tryz.prog W = .ok (.slice X n k) W := fun _ _ _ _ => by kernel_rfl
 refine wp_region_G 5 (fun w' => ∀ b o, w'.cell? ⟨b, o, none⟩ = if b < W6.heap.size then W6.cell? ⟨b, o, none⟩ else hidC w' b o) (by kernel_rfl) (cif (B := W6.heap.size) (W := W6) (Below.refl _ _).drew) ?_
 intro hG0
 refine wpS1 0 hG0 ?_; intro hG1; clear hG0
 refine wpS2 1 hG1 ?_; intro hG2; clear hG1
 refine wpS2 2 hG2 ?_; intro hG3; clear hG2
 refine wpAnyG_ready (rs := [3]) (by kernel_rfl) (by simp) (AllG.cons rfl hG3 (fun K hK => ?_) AllG.nil)
 (go_simp; go_at_call 41; refine (KC2.out _ (by exact bel)).mono ?_; rintro e w7 ⟨⟨MA, mc, ms', rfl, hg2, Q2, hQ2, hQ2b, ho2, hf2⟩, hb7⟩; have hB7 : Below W6.heap.size W6 w7 := (Below.refl _ _).drew.trans hb7; have hz7 := hB7.size; have HQ2 := Lib.hid (show W6.heap.size ≤ Q2 from hQ2); have HG2 := Lib.hid hg2; have HO2 := Lib.hid ho2; have HF2 := Lib.hid hf2; have hlk : ns'.length + ms'.length ≤ 4096 := (by have e2 : ms'.length = ms.length := (by rw [← nogs_len, hg2, nogs_len]); omega); clear hb7 hQ2 hg2 ho2 hf2)
 refine hK.out _ _ (Or.inr (cif (by exact bel))) (fun hG4 => wpN ?_); clear hK hG3
 refine wpS1 4 hG4 ?_; intro hG5; clear hG4
 refine wpAnyG_ready (rs := [5]) (by kernel_rfl) (by simp) (AllG.cons rfl hG5 (fun K hK => ?_) AllG.nil)
 (refine step_append_src (by rfl) _ _ 39 (by rfl) Q1 97 inf (.agg #[.slice none 0 0, .int .i64 0]) 2 32 sundN hinf iz0 iz1 iz2 rfl (by decide) (.slice NA ns'.length nc) ns'.length (ngC ns') (by rfl) (own_below HO6.out hB7) MA ms'.length mc (ngC ms') (by rfl) (src_own HO2.out (ngC_len _) ngC_one') (by unfold maxLen; omega) (by omega) (by omega) ?_; intro v9 w9 hown9 hgrow9 hat9; obtain ⟨A9, c9, rfl⟩ := own_shape hown9; have HO9 := Lib.hid hown9; have HG9 := Lib.hid hgrow9; have HA9 := Lib.hid hat9; have HC9 := Lib.hid (show BxI w9 CB 41 #[.int .i64 b, .slice NA ns'.length nc] from BxI.grown (HC6.out.up hB7) HG9.out (own_ne_bx (own_below HO6.out hB7) (HC6.out.up hB7) (by decide))); clear hown9 hgrow9 hat9)
 refine hK.out _ _ (Or.inl rfl) (fun hG6 => wpN ?_); clear hK hG5
 refine wpS1 6 hG6 ?_; intro hG7; clear hG6
 refine wpAnyG_ready (rs := [7]) (by kernel_rfl) (by simp) (AllG.cons rfl hG7 (fun K hK => ?_) AllG.nil)
 (refine step_store1 (by rfl) 39 _ _ (by rfl) CB 1 (.slice A9 (ns'.length + ms'.length) c9) rfl (by rfl) (by rfl) (there_blk HC9.out (Nat.le_refl 2)) (by kernel_rfl) rfl ?_; intro wy HWY)
 refine hK.out _ _ (Or.inl rfl) (fun hG8 => wpN ?_); clear hK hG7
 refine wpAnyG_done (by kernel_rfl) ?_ _; clear hG8
 obtain ⟨rs, hrs⟩ : ∃ rs, rs = ns' ++ ms' := ⟨_, rfl⟩
 have hrl : rs.length = ns'.length + ms'.length := by rw [hrs, List.length_append]
 have hne9 : (Value.slice A9 (ns'.length + ms'.length) c9).ownBlock ≠ some CB := fun e => by
  rcases HA9.out with e2 | e2
  ·rw [e2] at e; have := HRN.out _ e; omega
  ·rw [e2] at e; injection e with e; omega
 have hoy : wy.ownsRow Q1 97 2 (.slice A9 rs.length c9) rs.length (ngC rs) := by
  rw [hrl, HWY.out, hrs, ngC_app]
  exact own_set' HO9.out hne9
 have hfy : ∀ n ∈ rs, Fac wy (fun q => q < Q1) n.a n.l := fun n hn => by
  rw [hrs] at hn
  rcases List.mem_append.1 hn with hn | hn
  ·have h0 := (HF6.out n hn).up hB7
   have h1 := h0.move (Moves.grown (bad' := fun q => (q < Q1 ∨ (Value.slice NA ns'.length nc).ownBlock = some q) ∨ q = CB) HG9.out (fun q hq => .inl (.inr hq)) (fun q _ h => h))
   rw [HWY.out]
   exact (h1.move (Moves.set (bad := fun q => (q < Q1 ∨ (Value.slice NA ns'.length nc).ownBlock = some q) ∨ q = CB) (p := ⟨CB, 1, none⟩) _ (.inr rfl))).sub fun _ _ h => .inl (.inl h)
  ·have h0 := HF2.out n hn
   have hq2 := HQ2.out
   have h1 := h0.move (Moves.grown (bad' := fun q => q < Q2 ∨ (Value.slice MA ms'.length mc).ownBlock = some q) HG9.out (fun q hq => .inl (by have := HRN.out q hq; omega)) (fun q _ h => h))
   rw [HWY.out]
   exact (h1.move (Moves.set (bad := fun q => q < Q2 ∨ (Value.slice MA ms'.length mc).ownBlock = some q) (p := ⟨CB, 1, none⟩) _ (.inl (by show CB < Q2; omega)))).sub fun q _ h => .inl (by omega)
 have hcy : BxI wy CB 41 #[.int .i64 b, .slice A9 rs.length c9] := by rw [hrl, HWY.out]; exact HC9.out.set 1 _
 have hk : Kb (fun q => q = CB ∨ (Value.slice NA ns'.length nc).ownBlock = some q) w7 wy := by
  rw [HWY.out]
  exact ((Kb.refl _ w7).grown HG9.out fun k hk => .inl (.inr hk)).set (p := ⟨CB, 1, none⟩) (.inl (.inl rfl)) _
 have hRy : BxI wy R 41 #[.int .i64 0, .slice none 0 0] := (HR6.out.up hB7).kb hk fun h => by
  rcases h with h | h
  ·omega
  ·have := (HO6.out.lt R h).1; omega
 have hBy : Below w.heap.size w wy := by
  have h7 := HBw6.out.trans (hB7.mono HBw6.out.size)
  rw [HWY.out]
  exact (h7.grown HG9.out h7.size (fun q hq => Nat.le_trans hwQ (HO6.out.lt q hq).1)).setCell (p := ⟨CB, 1, none⟩) hwC _
 obtain ⟨kl, hkl⟩ : ∃ kl, kl = rs.length := ⟨_, rfl⟩
 have hkl4 : kl ≤ 4096 := by omega
 have hneR : (Value.slice A9 rs.length c9).ownBlock ≠ some R := fun e => by have := (hoy.lt R e).1; omega
 have HNL := Lib.hid (show Nls ((wy.setCell ⟨R, 0, none⟩ (.int .i64 b)).setCell ⟨R, 1, none⟩ (.slice A9 kl c9)) (fun _ => False) A9 rs from
  nls_own (own_set' (own_set' hoy hneR) hneR) (by omega) (fun _ _ h => h) fun n hn => ((((hfy n hn).move (Moves.set (bad := fun q => q < Q1) (p := ⟨R, 0, none⟩) _ hRQ)).move (Moves.set (bad := fun q => q < Q1) (p := ⟨R, 1, none⟩) _ hRQ)).sub (fun _ _ h => h.elim)))
 have HNG := Lib.hid (show nogs rs = nogs ns ++ nogs ms by rw [hrs, nogs_app, HG1.out, HG2.out])
 have HKL := Lib.hid hkl
 rw [← hkl] at hcy
 have HCY := Lib.hid hcy
 have HZ := Lib.hid (ret_cells (u := .int .i64 b) (v := .slice A9 kl c9) hRy)
 have HBZ := Lib.hid (show Below w.heap.size w ((wy.setCell ⟨R, 0, none⟩ (.int .i64 b)).setCell ⟨R, 1, none⟩ (.slice A9 kl c9)) from ret_below hBy (by omega))
 have r0 := hRy.cell 0 (.int .i64 0) rfl
 have r1 := hRy.cell 1 (.slice none 0 0) rfl
 have rf0 := hRy.fz 0
 have rf1 := hRy.fz 1
 have hRl := hRy.lt
 have y0 := hcy.cell 0 (.int .i64 b) rfl
 have y1 := hcy.cell 1 (.slice A9 kl c9) rfl
 have hCy := hcy.lt
 have e4 : decide ((4096 : Int) < (kl : Int)) = false := decide_eq_false (by omega)
 clear HWY HO9 HG9 HA9 HC9 hk hne9 hneR hoy hfy hRy hBy hcy hkl hrl hrs
 go_wp2
 have z0 := HZ.out.1
 have z1 := HZ.out.2
 refine bodyPost_ret (v := .tuple #[.agg #[.int .i64 b, .slice A9 kl c9], .nilIface]) (by simp [results, Tryz.results14, go_sem, z0, z1]) rfl ⟨⟨A9, c9, rs, by rw [HKL.out], HNL.out, HNG.out⟩, HBZ.out⟩
end

end Go.Proofs.YtlkebhiaimijiaaGreatDoor

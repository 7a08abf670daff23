/- succgen: fact; does an operator of a list have a fact on a variable: walked. -/
import Derived.Test.YtpobnjbpglaohaaGreatWqA
namespace Go.Proofs.YtpobnjbpglaohaaGreat
set_option linter.unusedSimpArgs false
set_option linter.unusedVariables false
open Go Go.RowKit
set_option linter.unusedVariables false

/-- A generator in memory: its task, its root. -/
structure GnAt (w : World) (G : Nat) (t : Tsk) (p : Lies) (root : Value) : Prop where
  box : BxI w G 82 #[.slice p.av t.vars.length p.cv, .slice p.ai t.init.length p.ci, .slice p.ag t.goal.length p.cg, .slice p.ao t.ops.length p.co, root]
  task : TaskAt w w.heap.size t p
theorem GnAt.up {w w' : World} {G : Nat} {t : Tsk} {p : Lies} {root : Value} (h : GnAt w G t p root) (k : Below w.heap.size w w') : GnAt w' G t p root := ⟨h.box.up k, h.task.up k⟩
/-- Is there a fact on v? -/
def fcB (l : List (Int × Int)) (v : Nat) : Bool := anyB l.length fun k => decide (fv l k = (v : Int))
/-- What fact returns. -/
def FcIs (l : List (Int × Int)) (v : Nat) (a b : Int) (c : Bool) : Prop := (c = true ∧ fcB l v = true ∧ ∃ k, k < l.length ∧ fv l k = (v : Int) ∧ a = (v : Int) ∧ b = fx l k) ∨ (c = false ∧ fcB l v = false)

set_option maxRecDepth 20000 in
set_option maxHeartbeats 4000000 in
theorem gfact_any (t : Tsk) (p : Lies) (G : Nat) (root : Value) (op v : Nat) (w : World) (hg : GnAt w G t p root) (hop : op < t.ops.length) (hr : Right t) :
    Calls Tryz.prog 58 #[.pointer (some ⟨G, 0, none⟩), .int .i64 op, .int .i64 v] w fun e w' => (∃ a b c, e = .returned (.tuple #[.agg #[.int .i64 a, .int .i64 b], .bool c]) ∧ FcIs (opr t.ops op).pre v a b c) ∧ Below w.heap.size w w' := by
  have HG := Lib.hid hg
  have hGl := hg.box.lt
  have hpl := hr.np op hop
  obtain ⟨b, o, S, c, T, d, ea, hb, d0, q0, d1, d2, f2, d3, e3⟩ := hg.task.ops.at2 (Below.refl _ _) hop
  have c3 := hg.box.cell 3 _ rfl
  have HF := Lib.hid f2
  obtain ⟨l, hl⟩ : ∃ l, l = (opr t.ops op).pre := ⟨_, rfl⟩
  rw [← hl] at d2 hpl HF
  rw [← hl]
  have c3' : w.cell? ⟨G, 3, none⟩ = some (.slice (some ⟨b, o, none⟩) t.ops.length p.co) := c3.trans (by rw [← ea]; rfl)
  clear hg hr ea d0 q0 d1 f2 d3 e3 c3 hl
  go_enter Tryz.func58, Tryz.ntmps58
  go_wp2_with fail
  go_loopw [20] (fun v20 wr => ∃ k : Nat, v20 = .int .i64 k ∧ k ≤ l.length ∧ Hid (∀ i, i < k → fv l i ≠ (v : Int)) ∧ Hid (Below w.heap.size w wr) ∧ Hid (BxI wr w.heap.size 111 #[.int .i64 0, .int .i64 0])) (fun v _ => l.length - (RowKit.intOf v).toNat)
  case atStart => exact ⟨0, rfl, Nat.zero_le _, Lib.hid (fun i h => absurd h (Nat.not_lt_zero _)), Lib.hid (by repeat (first | exact Below.refl _ _ | refine below_dN ?_ _ | refine Below.drew ?_ | refine Below.alloc ?_ (by first | omega | (simp; done) | (simp; omega)) _ | refine Below.setCell ?_ (by first | omega | (simp; done) | (simp; omega)) _ | refine below_step (by assumption) (by first | omega | (simp; done) | (simp; omega)) ?_)), Lib.hid (BxI.new _ _ _)⟩
  case round =>
    obtain ⟨k, rfl, hk, HK, HE, HX⟩ := hrel
    have hz := HE.out.size
    have hxlt := HX.out.lt
    have y0 := HX.out.cell 0 _ rfl
    have y1 := HX.out.cell 1 _ rfl
    have z0 := HX.out.fz 0
    have z1 := HX.out.fz 1
    by_cases hlt : k < l.length
    · obtain ⟨fb, fo, rfl, hfb, hfc⟩ := HF.out.2 (by omega)
      have i0 := (HE.out.cell (p := ⟨fb, _, none⟩) hfb).trans (hfc k hlt).1
      have i1 := (HE.out.cell (p := ⟨fb, _, none⟩) hfb).trans (hfc k hlt).2
      obtain ⟨fa, hfa⟩ : ∃ a, a = fv l k := ⟨_, rfl⟩
      obtain ⟨fy, hfy⟩ : ∃ a, a = fx l k := ⟨_, rfl⟩
      rw [← hfa] at i0
      rw [← hfy] at i1
      have HFA := Lib.hid hfa
      have HFY := Lib.hid hfy
      clear hfc hfa hfy
      by_cases hq : fa = (v : Int)
      · have HR := Lib.hid (show FcIs l v fa fy true from .inl ⟨rfl, anyB_true.2 ⟨k, hlt, decide_eq_true (by rw [← HFA.out, hq])⟩, k, hlt, by rw [← HFA.out, hq], hq, HFY.out⟩)
        go_wp2
        refine bodyPost_ret (v := .tuple #[.agg #[.int .i64 fa, .int .i64 fy], .bool true]) (by simp [results, Tryz.results58, go_sem, ↓IntWalk.iteOmega, *]) rfl ⟨⟨fa, fy, true, rfl, HR.out⟩, (by have hE := HE.out; repeat (first | exact hE | refine Below.drew ?_ | refine Below.alloc ?_ (by first | omega | (simp; done) | (simp; omega)) _ | refine Below.setCell ?_ (by first | omega | (simp; done) | (simp; omega)) _))⟩
      · go_wp2
        go_roundw
        case rel => exact ⟨k + 1, rfl, by omega, Lib.hid (fun i hi => by
          by_cases e : i = k
          · subst e; rw [← HFA.out]; exact hq
          · exact HK.out i (by omega)), Lib.hid (HE.out.trans (Below.mono (by repeat (first | exact Below.refl _ _ | refine below_dN ?_ _ | refine Below.drew ?_ | refine Below.alloc ?_ (by first | omega | (simp; done) | (simp; omega)) _ | refine Below.setCell ?_ (by first | omega | (simp; done) | (simp; omega)) _ | refine below_step (by assumption) (by first | omega | (simp; done) | (simp; omega)) ?_)) hz)), Lib.hid (HX.out.up (by repeat (first | exact Below.refl _ _ | refine below_dN ?_ _ | refine Below.drew ?_ | refine Below.alloc ?_ (by first | omega | (simp; done) | (simp; omega)) _ | refine Below.setCell ?_ (by first | omega | (simp; done) | (simp; omega)) _ | refine below_step (by assumption) (by first | omega | (simp; done) | (simp; omega)) ?_)))⟩
        case measure => simp [RowKit.intOf]; omega
    · obtain rfl : k = l.length := by omega
      have HR := Lib.hid (show FcIs l v 0 0 false from .inr ⟨rfl, anyB_false.2 (fun k hk => decide_eq_false (HK.out k hk))⟩)
      go_wp2
      refine bodyPost_ret (v := .tuple #[.agg #[.int .i64 0, .int .i64 0], .bool false]) (by simp [results, Tryz.results58, go_sem, ↓IntWalk.iteOmega, *]) rfl ⟨⟨0, 0, false, rfl, HR.out⟩, (by have hE := HE.out; repeat (first | exact hE | refine Below.drew ?_ | refine Below.alloc ?_ (by first | omega | (simp; done) | (simp; omega)) _ | refine Below.setCell ?_ (by first | omega | (simp; done) | (simp; omega)) _))⟩

theorem FcIs.bool {l : List (Int × Int)} {v : Nat} {a b : Int} {c : Bool} (h : FcIs l v a b c) : c = fcB l v := by
  rcases h with ⟨rfl, h, _⟩ | ⟨rfl, h⟩ <;> exact h.symm
set_option maxHeartbeats 2000000 in
theorem glam_any (t : Tsk) (p : Lies) (G X1 X2 : Nat) (root : Value) (op v : Nat) (w : World) (hg : GnAt w G t p root) (hop : op < t.ops.length) (hr : Right t) (h1 : w.cell? ⟨X1, 0, none⟩ = some (.pointer (some ⟨G, 0, none⟩))) (h2 : w.cell? ⟨X2, 0, none⟩ = some (.int .i64 v)) :
    Calls Tryz.prog 57 #[.int .i64 op, .pointer (some ⟨X1, 0, none⟩), .pointer (some ⟨X2, 0, none⟩)] w fun e w' => e = .returned (.bool (fcB (opr t.ops op).pre v)) ∧ Below w.heap.size w w' := by
  have K := Lib.hid (fun W (k : Below w.heap.size w W) => gfact_any t p G root op v W (hg.up k) hop hr)
  clear hg hr
  go_enter Tryz.func57, Tryz.ntmps57
  go_wp2_with fail
  refine (K.out _ (by repeat (first | exact Below.refl _ _ | refine below_dN ?_ _ | refine Below.drew ?_ | refine Below.alloc ?_ (by first | omega | (simp; done) | (simp; omega)) _ | refine Below.setCell ?_ (by first | omega | (simp; done) | (simp; omega)) _ | refine below_step (by assumption) (by first | omega | (simp; done) | (simp; omega)) ?_))).mono ?_
  rintro e w1 ⟨⟨a, b, c, rfl, hfc⟩, hb1⟩
  have HC := Lib.hid hfc.bool
  have HB := Lib.hid (show Below w.heap.size w w1 from below_step hb1 (show w.heap.size ≤ _ by simp) (show Below w.heap.size w _ by repeat (first | exact Below.refl _ _ | refine below_dN ?_ _ | refine Below.drew ?_ | refine Below.alloc ?_ (by first | omega | (simp; done) | (simp; omega)) _ | refine Below.setCell ?_ (by first | omega | (simp; done) | (simp; omega)) _ | refine below_step (by assumption) (by first | omega | (simp; done) | (simp; omega)) ?_)))
  have hz := HB.out.size
  clear hfc hb1
  go_wp2
  refine bodyPost_ret (v := .bool c) (by simp [results, Tryz.results57, go_sem, ↓IntWalk.iteOmega, *]) rfl ⟨by rw [← HC.out], HB.out.trans (Below.mono (by repeat (first | exact Below.refl _ _ | refine below_dN ?_ _ | refine Below.drew ?_ | refine Below.alloc ?_ (by first | omega | (simp; done) | (simp; omega)) _ | refine Below.setCell ?_ (by first | omega | (simp; done) | (simp; omega)) _ | refine below_step (by assumption) (by first | omega | (simp; done) | (simp; omega)) ?_)) hz)⟩
/-- Has one of these operators a fact on v? -/
def hasV (t : Tsk) (l : List Nat) (v : Nat) : Bool := l.any fun k => fcB (opr t.ops k).pre v
def nI (l : List Nat) : List Int := l.map fun k : Nat => (k : Int)
theorem nI_len (l : List Nat) : (nI l).length = l.length := by unfold nI; simp
theorem nI_get {l : List Nat} {k : Nat} (h : k < l.length) : nth (nI l) k = ((opN l k : Nat) : Int) := by
  unfold nth nI opN
  simp [List.getD, h]
theorem opN_mem {l : List Nat} {k : Nat} (h : k < l.length) : opN l k ∈ l := by unfold opN; simp [List.getD, h]
theorem mem_opN {l : List Nat} {x : Nat} (h : x ∈ l) : ∃ k, k < l.length ∧ opN l k = x := by
  obtain ⟨k, hk, e⟩ := List.getElem_of_mem h
  exact ⟨k, hk, by unfold opN; simp [List.getD, hk, e]⟩

set_option maxRecDepth 20000 in
set_option maxHeartbeats 4000000 in
theorem gidx_any (t : Tsk) (p : Lies) (G X1 X2 : Nat) (root : Value) (l : List Nat) (A : Option Addr) (c v : Nat) (w : World) (hg : GnAt w G t p root) (hr : Right t) (hl : IntsAt w w.heap.size A (nI l)) (hll : l.length ≤ 4096) (hop : ∀ k ∈ l, k < t.ops.length) (h1 : BxI w X1 34 #[.pointer (some ⟨G, 0, none⟩)]) (h2 : BxI w X2 3 #[.int .i64 v]) :
    Calls Tryz.prog 69 #[.slice A l.length c, .func (.func 57) #[] #[.pointer (some ⟨X1, 0, none⟩), .pointer (some ⟨X2, 0, none⟩)]] w fun e w' => (∃ i, e = .returned (.int .i64 i) ∧ decide (0 ≤ i) = hasV t l v) ∧ Below w.heap.size w w' := by
  have K := Lib.hid (fun W (k : Below w.heap.size w W) (op : Nat) (ho : op < t.ops.length) => glam_any t p G X1 X2 root op v W (hg.up k) ho hr ((h1.up k).cell 0 _ rfl) ((h2.up k).cell 0 _ rfl))
  have HL := Lib.hid hl
  have HOP := Lib.hid hop
  clear hg hr hl hop h1 h2
  go_enter Tryz.func69, Tryz.ntmps69
  go_wp2
  go_loopw [8] (fun i wr => ∃ k : Nat, k ≤ l.length ∧ i = .int .i64 k ∧ Hid (∀ j, j < k → fcB (opr t.ops (opN l j)).pre v = false) ∧ Hid (Below w.heap.size w wr)) (fun i _ => l.length - (RowKit.intOf i).toNat)
  case atStart => exact ⟨0, by omega, rfl, Lib.hid (fun j h => absurd h (Nat.not_lt_zero _)), Lib.hid (Below.refl _ _)⟩
  case round =>
    obtain ⟨k, hk, rfl, HB, HE⟩ := hrel
    have hz := HE.out.size
    by_cases hlt : k < l.length
    · obtain ⟨fb, fo, rfl, hfb, hfc⟩ := HL.out.2 (by rw [nI_len]; omega)
      have i0 := (HE.out.cell (p := ⟨fb, _, none⟩) hfb).trans (hfc k (by rw [nI_len]; exact hlt))
      rw [nI_get hlt] at i0
      have hol := HOP.out _ (opN_mem hlt)
      obtain ⟨x, hx⟩ : ∃ x, x = opN l k := ⟨_, rfl⟩
      have HX := Lib.hid hx
      rw [← hx] at i0 hol
      clear hfc hx
      have KC := Lib.hid (K.out wr HE.out x hol)
      cases e1 : fcB (opr t.ops x).pre v
      · rw [e1] at KC
        go_wp2_with fail
        refine KC.out.mono ?_
        rintro e w' ⟨rfl, hb9⟩
        go_wp2
        go_roundw
        case rel => exact ⟨k + 1, by omega, by go_num, Lib.hid (fun j hj => by
          by_cases e : j = k
          · subst e; rw [← HX.out]; exact e1
          · exact HB.out j (by omega)), Lib.hid (HE.out.trans (hb9.mono hz))⟩
        case measure => simp [RowKit.intOf]; omega
      · have Ht := Lib.hid (show hasV t l v = true from List.any_eq_true.2 ⟨_, opN_mem hlt, by rw [← HX.out]; exact e1⟩)
        rw [e1] at KC
        go_wp2_with fail
        refine KC.out.mono ?_
        rintro e w' ⟨rfl, hb9⟩
        go_wp2
        go_ret
        refine ⟨⟨_, rfl, ?_⟩, HE.out.trans (hb9.mono hz)⟩
        rw [Ht.out]
        simp
    · obtain rfl : k = l.length := by omega
      go_wp2
      go_ret
      refine ⟨⟨_, rfl, ?_⟩, HE.out⟩
      rw [show hasV t l v = false from List.any_eq_false.2 (fun x hx => by
        obtain ⟨j, hj, rfl⟩ := mem_opN hx
        rw [HB.out j hj]; simp)]
      rfl
theorem bool_retW {i : Int} {b : Bool} (h : decide (0 ≤ i) = b) : Ending.returned (.bool (decide (0 ≤ i))) = .returned (.bool b) := by rw [h]
set_option maxHeartbeats 1000000 in
theorem gcon_any (t : Tsk) (p : Lies) (G X1 X2 : Nat) (root : Value) (l : List Nat) (A : Option Addr) (c v : Nat) (w : World) (hg : GnAt w G t p root) (hr : Right t) (hl : IntsAt w w.heap.size A (nI l)) (hll : l.length ≤ 4096) (hop : ∀ k ∈ l, k < t.ops.length) (h1 : BxI w X1 34 #[.pointer (some ⟨G, 0, none⟩)]) (h2 : BxI w X2 3 #[.int .i64 v]) :
    Calls Tryz.prog 56 #[.slice A l.length c, .func (.func 57) #[] #[.pointer (some ⟨X1, 0, none⟩), .pointer (some ⟨X2, 0, none⟩)]] w fun e w' => e = .returned (.bool (hasV t l v)) ∧ Below w.heap.size w w' := by
  have k1 := Lib.hid (gidx_any t p G X1 X2 root l A c v w hg hr hl hll hop h1 h2)
  clear hg hr hl hop h1 h2
  go_enter Tryz.func56, Tryz.ntmps56
  go_wp2_with fail
  refine k1.out.mono ?_
  rintro e w1 ⟨⟨i, rfl, hi⟩, hb1⟩
  have Hi := Lib.hid hi
  clear hi
  go_wp2
  go_ret
  exact ⟨bool_retW Hi.out, by repeat (first | exact Below.refl _ _ | refine below_dN ?_ _ | refine Below.drew ?_ | refine Below.alloc ?_ (by first | omega | (simp; done) | (simp; omega)) _ | refine Below.setCell ?_ (by first | omega | (simp; done) | (simp; omega)) _ | refine below_step (by assumption) (by first | omega | (simp; done) | (simp; omega)) ?_)⟩
end Go.Proofs.YtpobnjbpglaohaaGreat

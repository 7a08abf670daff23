/- The law WholeTampered. -/
import Derived.Test.YtlkebhiaimijiaaGreatDoorNgE
import Derived.Test.YtlkebhiaimijiaaGreatDoorVgB
import Derived.Test.YtlkebhiaimijiaaGreatDoorVfA
import Derived.Test.YtlkebhiaimijiaaGreatDoorBestW
namespace Go.Proofs.YtlkebhiaimijiaaGreatDoor
set_option linter.unusedSimpArgs false
set_option linter.unusedVariables false
open Go Go.RowKit
set_option linter.unusedVariables false

/-- A change of a text. -/
structure Chg where
  at_ : Int
  kd : Int
  bt : Int
def chg (l : List Chg) (k : Nat) : Chg := l.getD k ⟨0, 0, 0⟩
def ChgOk (x : Chg) : Prop := (0 ≤ x.at_ ∧ x.at_ < 65536) ∧ (0 ≤ x.kd ∧ x.kd < 256) ∧ 0 ≤ x.bt ∧ x.bt < 256
/-- Changes in memory: three cells each. -/
def ChgsAt (w : World) (B : Nat) (A : Option Addr) (l : List Chg) : Prop :=
  l.length ≤ 1125899906842624 ∧ (0 < l.length → ∃ b off, A = some ⟨b, off, none⟩ ∧ b < B ∧ ∀ k, k < l.length →
    (w.cell? ⟨b, off + k * 3, none⟩ = some (.int .u16 (chg l k).at_) ∧ w.cell? ⟨b, off + k * 3 + 1, none⟩ = some (.int .u8 (chg l k).kd) ∧ w.cell? ⟨b, off + k * 3 + 2, none⟩ = some (.int .u8 (chg l k).bt)) ∧ ChgOk (chg l k))
theorem ChgsAt.at_ {w : World} {B : Nat} {A : Option Addr} {l : List Chg} (h : ChgsAt w B A l) {k : Nat} (hk : k < l.length) : ∃ b off, A = some ⟨b, off, none⟩ ∧ b < B ∧
    (w.cell? ⟨b, off + k * 3, none⟩ = some (.int .u16 (chg l k).at_) ∧ w.cell? ⟨b, off + k * 3 + 1, none⟩ = some (.int .u8 (chg l k).kd) ∧ w.cell? ⟨b, off + k * 3 + 2, none⟩ = some (.int .u8 (chg l k).bt)) ∧ ChgOk (chg l k) := by
  obtain ⟨b, off, e, hb, hc⟩ := h.2 (by omega)
  exact ⟨b, off, e, hb, hc k hk⟩
theorem ChgsAt.up {w w' : World} {A : Option Addr} {l : List Chg} {B : Nat} (h : ChgsAt w B A l) (hb : Below B w w') : ChgsAt w' B A l :=
  ⟨h.1, fun hn => by
    obtain ⟨b, off, e, h1, hc⟩ := h.2 hn
    exact ⟨b, off, e, h1, fun k hk => ⟨⟨(hb.cell (p := ⟨b, _, none⟩) h1).trans (hc k hk).1.1, (hb.cell (p := ⟨b, _, none⟩) h1).trans (hc k hk).1.2.1, (hb.cell (p := ⟨b, _, none⟩) h1).trans (hc k hk).1.2.2⟩, (hc k hk).2⟩⟩⟩
theorem is55 (w : World) : Calls Tryz.prog 17 #[.iface 49 (.int .i64 5), .int .i64 5] w fun e w' => e = .returned (.bool true) ∧ w = w' := by
  have h := is_any 5 5 w (by decide)
  exact h
/-- What Lower answered, laid out. -/
structure LwV (t : Tsk) (b B : Int) (NA : Option Addr) (n nc : Nat) (v : Value) (w' : World) : Prop where
  two : (∃ (ns : List Ngd), B = b ∧ n = ns.length ∧ v = .nilIface ∧ Nls w' (fun _ => False) NA ns ∧ LowC t b ns) ∨ ∃ ec : Int, v = .iface 49 (.int .i64 ec)
theorem lw_flat {t : Tsk} {b lim : Int} {e : Ending} {w' : World} (h : LowRet t b lim e w') : ∃ (B : Int) (NA : Option Addr) (n nc : Nat) (v : Value), e = .returned (.tuple #[.agg #[.int .i64 B, .slice NA n nc], v]) ∧ LwV t b B NA n nc v w' := by
  rcases h with ⟨NA, nc, ns, rfl, h1, h2⟩ | ⟨ec, rfl, _⟩
  · exact ⟨_, _, _, _, _, rfl, ⟨.inl ⟨ns, rfl, rfl, rfl, h1, h2⟩⟩⟩
  · exact ⟨_, _, _, _, _, rfl, ⟨.inr ⟨ec, rfl⟩⟩⟩
theorem LwV.move {t : Tsk} {b B : Int} {NA : Option Addr} {n nc : Nat} {v : Value} {w w' : World} (h : LwV t b B NA n nc v w) (m : ∀ ns, Nls w (fun _ => False) NA ns → Nls w' (fun _ => False) NA ns) : LwV t b B NA n nc v w' := by
  rcases h.two with ⟨ns, h1, h2, h3, h4, h5⟩ | h
  · exact ⟨.inl ⟨ns, h1, h2, h3, m _ h4, h5⟩⟩
  · exact ⟨.inr h⟩
theorem box_end {w : World} {X : Nat} {T : TypeId} {x y : Value} (h : BxI w X T #[x, y]) {i : Nat} (hi : 2 ≤ i) : w.cell? ⟨X, i, none⟩ = none := by
  have e : w.heap[X]? = some (.cells #[x, y] T) := h
  unfold World.cell?
  simp [e, hi]
theorem nls_box {w : World} {Y : Nat} {T : TypeId} {z : Int} {A' : Option Addr} {n' c' : Nat} {NA : Option Addr} {ns : List Ngd} (hX : BxI w Y T #[.int .i64 z, .slice A' n' c']) (h : Nls w (fun _ => False) NA ns) : Nls w (fun q => q = Y) NA ns := by
  have e0 := hX.cell 0 (.int .i64 z) rfl
  have e1 := hX.cell 1 (.slice A' n' c') rfl
  refine ⟨h.1, fun hn => ?_, fun f hf => ⟨(h.2.2 f hf).1, fun hn => ?_⟩⟩
  · obtain ⟨b, off, e, hb, _, hc⟩ := h.2.1 hn
    refine ⟨b, off, e, hb, fun hq => ?_, hc⟩
    subst hq
    obtain ⟨h0, h1⟩ := hc 0 hn
    rw [Nat.zero_mul, Nat.add_zero] at h0 h1
    rcases off with _ | _ | off
    · rw [e0] at h0; cases h0
    · rw [box_end hX (by omega)] at h1; cases h1
    · rw [box_end hX (by omega)] at h0; cases h0
  · obtain ⟨b, off, e, hb, _, hc⟩ := (h.2.2 f hf).2 hn
    refine ⟨b, off, e, hb, fun hq => ?_, hc⟩
    subst hq
    obtain ⟨h0, h1⟩ := hc 0 hn
    rw [Nat.zero_mul, Nat.add_zero] at h0 h1
    rcases off with _ | _ | off
    · rw [e1] at h1; cases h1
    · rw [e1] at h0; cases h0
    · rw [box_end hX (by omega)] at h0; cases h0
theorem nls_set {w : World} {Y : Nat} {NA : Option Addr} {ns : List Ngd} (h : Nls w (fun q => q = Y) NA ns) (i : Nat) (u : Value) : Nls (w.setCell ⟨Y, i, none⟩ u) (fun q => q = Y) NA ns :=
  h.move (Moves.set (bad := fun q => q = Y) (p := ⟨Y, i, none⟩) u rfl)
/-- Behind the call of Lower and its box. -/
def LwY (t : Tsk) (w3 : World) (x v : Value) (wx : World) : Prop :=
  (∃ (Y : Nat) (b B : Int) (NA : Option Addr) (n nc : Nat), x = .pointer (some ⟨Y, 0, none⟩) ∧ w3.heap.size ≤ Y ∧ BxI wx Y 41 #[.int .i64 B, .slice NA n nc] ∧ -1 ≤ b ∧ b ≤ 50 ∧ LwV t b B NA n nc v wx) ∧ Below w3.heap.size w3 wx

set_option maxRecDepth 100000 in
set_option maxHeartbeats 16000000 in
theorem wholeTampered_any (t : Tsk) (p : Lies) (x : Int) (A : Option Addr) (l : List Chg) (c : Nat) (w : World) (ht : TaskAt w w.heap.size t p) (hl : ChgsAt w w.heap.size A l) (hx0 : -9223372036854775808 ≤ x) (hx1 : x ≤ 9223372036854775807) (hE : EnvT w) (hM : EnvM w) :
    Calls Tryz.prog 4 #[TaskV t p, .int .i64 x, .slice A l.length c] w fun e w' => e = .returned (.bool true) ∧ Below w.heap.size w w' := by
  obtain ⟨W0, hW0⟩ : ∃ W0, W0 = w.alloc (.cells #[.slice p.av t.vars.length p.cv, .slice p.ai t.init.length p.ci, .slice p.ag t.goal.length p.cg, .slice p.ao t.ops.length p.co] 26) := ⟨_, rfl⟩
  have HB0 := Lib.hid (show Below w.heap.size w W0 by rw [hW0]; exact (Below.refl _ _).alloc (Nat.le_refl _) _)
  have HX0 := Lib.hid (show BxI W0 w.heap.size 26 #[.slice p.av t.vars.length p.cv, .slice p.ai t.init.length p.ci, .slice p.ag t.goal.length p.cg, .slice p.ao t.ops.length p.co] by rw [hW0]; exact BxI.new _ _ _)
  have KT := Lib.hid (tame_any t p W0 (ht.up HB0.out))
  have HT := Lib.hid ht
  have HL := Lib.hid hl
  have HE := Lib.hid hE
  have HM := Lib.hid hM
  have hll : l.length ≤ 1125899906842624 := hl.1
  have x0 := HX0.out.cell 0 (.slice p.av t.vars.length p.cv) rfl
  have x1 := HX0.out.cell 1 (.slice p.ai t.init.length p.ci) rfl
  have x2 := HX0.out.cell 2 (.slice p.ag t.goal.length p.cg) rfl
  have x3 := HX0.out.cell 3 (.slice p.ao t.ops.length p.co) rfl
  clear ht hl hE hM
  unfold TaskV
  go_enter Tryz.func4, Tryz.ntmps4
  go_wp2_with fail
  rw [← hW0]
  have HW0 := Lib.hid hW0
  clear hW0
  refine KT.out.mono ?_
  rintro e w1 ⟨⟨tm, rfl, htm⟩, hb1⟩
  have HBw1 := Lib.hid (show Below w.heap.size w w1 from HB0.out.trans (hb1.mono HB0.out.size))
  have HX1 := Lib.hid (HX0.out.up hb1)
  clear x0 x1 x2 x3 hb1
  have x0 := HX1.out.cell 0 (.slice p.av t.vars.length p.cv) rfl
  have x1 := HX1.out.cell 1 (.slice p.ai t.init.length p.ci) rfl
  have x2 := HX1.out.cell 2 (.slice p.ag t.goal.length p.cg) rfl
  have x3 := HX1.out.cell 3 (.slice p.ao t.ops.length p.co) rfl
  cases tm
  · have KA := Lib.hid (certifyAwake_any w1 (HE.out.up HBw1.out))
    go_wp2_with fail
    refine KA.out.mono ?_
    rintro e w2 ⟨rfl, hb2⟩
    go_wp2
    go_ret
    exact ⟨rfl, HBw1.out.trans (hb2.mono HBw1.out.size)⟩
  · have htm' := htm rfl
    obtain ⟨hsm, hdm⟩ := htm'
    have HSM := Lib.hid hsm
    have HDM := Lib.hid hdm
    clear htm hsm hdm
    by_cases h6 : (6 : Int) < t.ops.length
    · have e6 : decide ((6 : Int) < t.ops.length) = true := decide_eq_true h6
      have KA := Lib.hid (certifyAwake_any w1 (HE.out.up HBw1.out))
      go_wp2_with fail
      refine KA.out.mono ?_
      rintro e w2 ⟨rfl, hb2⟩
      go_wp2
      go_ret
      exact ⟨rfl, HBw1.out.trans (hb2.mono HBw1.out.size)⟩
    · have e6 : decide ((6 : Int) < t.ops.length) = false := decide_eq_false h6
      have KM := Lib.hid (manyB_any t.vars p.av p.cv w1 (HT.out.up HBw1.out).vars HDM.out)
      obtain ⟨m, hm⟩ : ∃ m, m = mnyQ 81 t.vars := ⟨_, rfl⟩
      rw [← hm] at KM
      have HMQ := Lib.hid hm
      clear hm
      go_wp2_with fail
      refine KM.out.mono ?_
      rintro e w2 ⟨rfl, hb2⟩
      have HBw2 := Lib.hid (show Below w.heap.size w w2 from HBw1.out.trans (hb2.mono HBw1.out.size))
      have HX2 := Lib.hid (HX1.out.up hb2)
      clear x0 x1 x2 x3 hb2
      have x0 := HX2.out.cell 0 (.slice p.av t.vars.length p.cv) rfl
      have x1 := HX2.out.cell 1 (.slice p.ai t.init.length p.ci) rfl
      have x2 := HX2.out.cell 2 (.slice p.ag t.goal.length p.cg) rfl
      have x3 := HX2.out.cell 3 (.slice p.ao t.ops.length p.co) rfl
      have KA := Lib.hid (certifyAwake_any w2 (HE.out.up HBw2.out))
      by_cases h81 : (81 : Int) < m
      · have e81 : decide ((81 : Int) < m) = true := decide_eq_true h81
        go_wp2_with fail
        refine KA.out.mono ?_
        rintro e w3 ⟨rfl, hb3⟩
        go_wp2
        go_ret
        exact ⟨rfl, HBw2.out.trans (hb3.mono HBw2.out.size)⟩
      · have e81 : decide ((81 : Int) < m) = false := decide_eq_false h81
        by_cases h10 : (10 : Int) < l.length
        · have e10 : decide ((10 : Int) < l.length) = true := decide_eq_true h10
          go_wp2_with fail
          refine KA.out.mono ?_
          rintro e w3 ⟨rfl, hb3⟩
          go_wp2
          go_ret
          exact ⟨rfl, HBw2.out.trans (hb3.mono HBw2.out.size)⟩
        · have e10 : decide ((10 : Int) < l.length) = false := decide_eq_false h10
          go_wp2_with fail
          refine KA.out.mono ?_
          rintro e w3 ⟨rfl, hb3⟩
          have HBw3 := Lib.hid (show Below w.heap.size w w3 from HBw2.out.trans (hb3.mono HBw2.out.size))
          have HX3 := Lib.hid (HX2.out.up hb3)
          clear x0 x1 x2 x3 hb3 KA KM KT
          have x0 := HX3.out.cell 0 (.slice p.av t.vars.length p.cv) rfl
          have x1 := HX3.out.cell 1 (.slice p.ai t.init.length p.ci) rfl
          have x2 := HX3.out.cell 2 (.slice p.ag t.goal.length p.cg) rfl
          have x3 := HX3.out.cell 3 (.slice p.ao t.ops.length p.co) rfl
          have KB := Lib.hid (bbest_any t p w3 (HT.out.up HBw3.out) HSM.out)
          go_wp2_with fail
          refine KB.out.mono ?_
          rintro e w4 ⟨⟨d, rfl, hd⟩, hb4⟩
          have HBw4 := Lib.hid (show Below w.heap.size w w4 from HBw3.out.trans (hb4.mono HBw3.out.size))
          have HX4 := Lib.hid (HX3.out.up hb4)
          have HD := Lib.hid hd
          clear x0 x1 x2 x3 hb4 KB hd
          have x0 := HX4.out.cell 0 (.slice p.av t.vars.length p.cv) rfl
          have x1 := HX4.out.cell 1 (.slice p.ai t.init.length p.ci) rfl
          have x2 := HX4.out.cell 2 (.slice p.ag t.goal.length p.cg) rfl
          have x3 := HX4.out.cell 3 (.slice p.ao t.ops.length p.co) rfl
          have hX4 := HX4.out.lt
          have HQ := Lib.hid (show (npV t.vars + 1) * (t.ops.length * npV t.vars) + 1 ≤ 9000000 by
            have h1 : npV t.vars ≤ 922 := np_81 (fun k hk => (HDM.out k hk).1) (by
              have h2 := HMQ.out
              unfold mnyQ at h2
              split at h2 <;> omega)
            have h2 : t.ops.length * npV t.vars ≤ 6 * 922 := Nat.mul_le_mul (by omega) h1
            have h3 : (npV t.vars + 1) * (t.ops.length * npV t.vars) ≤ 923 * (6 * 922) := Nat.mul_le_mul (by omega) h2
            omega)
          have KL := Lib.hid (fun b W (h0 : -1 ≤ b) (h1 : b ≤ 50) (h : Below w4.heap.size w4 W) => lower_any t p b 4096 W (HT.out.up (HBw4.out.trans (h.mono HBw4.out.size))) HSM.out.chk h0 (by omega) (by decide) (by decide) HQ.out)
          go_upto_region 4 with fail
          go_cut [8, 9] (fun x e wx => LwY t w4 x e wx)
          case first =>
            clear HQ
            refine wp_region_G 3 (fun w' => ∀ b o, w'.cell? ⟨b, o, none⟩ = if b < w4.heap.size then w4.cell? ⟨b, o, none⟩ else hidC w' b o) (by kernel_rfl) (cif (B := w4.heap.size) (W := w4) (Below.refl _ _).drew) ?_
            intro hG0
            refine wpS2 0 hG0 ?_; intro hG1; clear hG0
            refine wpS1 1 hG1 ?_; intro hG2; clear hG1
            refine wpAnyG_ready (rs := [2, 7]) (by kernel_rfl) (by simp) (AllG.cons rfl hG2 (fun K hK => ?_) (AllG.cons rfl hG2 (fun K hK => ?_) AllG.nil))
            (go_simp; go_at_call 8; refine (clip_any x _ hx0 hx1).mono ?_; rintro e w5 ⟨⟨b, rfl, hbl, hbu⟩, rfl⟩)
            refine hK.out _ _ (Or.inr (cif (by repeat (first | exact Below.refl _ _ | refine below_dN ?_ _ | refine Below.drew ?_ | refine Below.alloc ?_ (by first | omega | (simp; done) | (simp; omega)) _ | refine Below.setCell ?_ (by first | omega | (simp; done) | (simp; omega)) _ | refine below_step (by assumption) (by first | omega | (simp; done) | (simp; omega)) ?_)))) (fun hG3 => wpN ?_); clear hK hG2
            refine wpAnyG_ready (rs := [3, 7]) (by kernel_rfl) (by simp) (AllG.cons rfl hG3 (fun K hK => ?_) (AllG.cons rfl hG3 (fun K hK => ?_) AllG.nil))
            (go_simp; go_at_call 12; refine (KL.out b _ hbl hbu (by repeat (first | exact Below.refl _ _ | refine below_dN ?_ _ | refine Below.drew ?_ | refine Below.alloc ?_ (by first | omega | (simp; done) | (simp; omega)) _ | refine Below.setCell ?_ (by first | omega | (simp; done) | (simp; omega)) _ | refine below_step (by assumption) (by first | omega | (simp; done) | (simp; omega)) ?_))).mono ?_; rintro e w5 ⟨hlr, hb5⟩; obtain ⟨B, NA, n, nc, v, rfl, hlv⟩ := lw_flat hlr)
            refine hK.out _ _ (Or.inl rfl) (fun hG4 => wpN ?_); clear hK hG3
            refine wpS1 4 hG4 ?_; intro hG5; clear hG4
            refine wpS1 5 hG5 ?_; intro hG6; clear hG5
            refine wpS1 6 hG6 ?_; intro hG7; clear hG6
            refine wpAnyG_ready (rs := [7]) (by kernel_rfl) (by simp) (AllG.cons rfl hG7 (fun K hK => ?_) AllG.nil)
            (go_simp)
            refine hK.out _ _ (Or.inl rfl) (fun hG8 => wpN ?_); clear hK hG7
            refine wpAnyG_ready (rs := [8]) (by kernel_rfl) (by simp) (AllG.cons rfl hG8 (fun K hK => ?_) AllG.nil)
            (go_simp)
            refine hK.out _ _ (Or.inl rfl) (fun hG9 => wpN ?_); clear hK hG8
            refine wpS1 9 hG9 ?_; intro hG10; clear hG9
            refine wpAnyG_done (by kernel_rfl) ?_ _; clear hG10
            rotate_left
            (go_simp)
            refine hK.out _ _ (Or.inr (cif (by repeat (first | exact Below.refl _ _ | refine below_dN ?_ _ | refine Below.drew ?_ | refine Below.alloc ?_ (by first | omega | (simp; done) | (simp; omega)) _ | refine Below.setCell ?_ (by first | omega | (simp; done) | (simp; omega)) _ | refine below_step (by assumption) (by first | omega | (simp; done) | (simp; omega)) ?_)))) (fun hG4 => wpN ?_); clear hK hG3
            refine wpAnyG_ready (rs := [3]) (by kernel_rfl) (by simp) (AllG.cons rfl hG4 (fun K hK => ?_) AllG.nil)
            (go_simp; go_at_call 12; refine (KL.out b _ hbl hbu (by repeat (first | exact Below.refl _ _ | refine below_dN ?_ _ | refine Below.drew ?_ | refine Below.alloc ?_ (by first | omega | (simp; done) | (simp; omega)) _ | refine Below.setCell ?_ (by first | omega | (simp; done) | (simp; omega)) _ | refine below_step (by assumption) (by first | omega | (simp; done) | (simp; omega)) ?_))).mono ?_; rintro e w5 ⟨hlr, hb5⟩; obtain ⟨B, NA, n, nc, v, rfl, hlv⟩ := lw_flat hlr; have q0 : w5.cell? ⟨w4.heap.size, 0, none⟩ = some (.int .i64 0) := (hb5.cell (p := ⟨w4.heap.size, 0, none⟩) (by simp)).trans (by simp); have q1 : w5.cell? ⟨w4.heap.size, 1, none⟩ = some (.slice none 0 0) := (hb5.cell (p := ⟨w4.heap.size, 1, none⟩) (by simp)).trans (by simp); have q2 : w5.frozen? ⟨w4.heap.size, 0, none⟩ = false := (hb5.frozen (p := ⟨w4.heap.size, 0, none⟩) (by simp)).trans (by simp); have q3 : w5.frozen? ⟨w4.heap.size, 1, none⟩ = false := (hb5.frozen (p := ⟨w4.heap.size, 1, none⟩) (by simp)).trans (by simp); have q4 : w4.heap.size < w5.heap.size := (by have := hb5.size; simp at this; omega))
            refine hK.out _ _ (Or.inl rfl) (fun hG5 => wpN ?_); clear hK hG4
            refine wpS1 4 hG5 ?_; intro hG6; clear hG5
            refine wpS1 5 hG6 ?_; intro hG7; clear hG6
            refine wpS1 6 hG7 ?_; intro hG8; clear hG7
            refine wpAnyG_ready (rs := [8]) (by kernel_rfl) (by simp) (AllG.cons rfl hG8 (fun K hK => ?_) AllG.nil)
            (go_simp)
            refine hK.out _ _ (Or.inl rfl) (fun hG9 => wpN ?_); clear hK hG8
            refine wpS1 9 hG9 ?_; intro hG10; clear hG9
            refine wpAnyG_done (by kernel_rfl) ?_ _; clear hG10
            rotate_left
            (go_simp)
            refine hK.out _ _ (Or.inr (cif (by repeat (first | exact Below.refl _ _ | refine below_dN ?_ _ | refine Below.drew ?_ | refine Below.alloc ?_ (by first | omega | (simp; done) | (simp; omega)) _ | refine Below.setCell ?_ (by first | omega | (simp; done) | (simp; omega)) _ | refine below_step (by assumption) (by first | omega | (simp; done) | (simp; omega)) ?_)))) (fun hG3 => wpN ?_); clear hK hG2
            refine wpAnyG_ready (rs := [2]) (by kernel_rfl) (by simp) (AllG.cons rfl hG3 (fun K hK => ?_) AllG.nil)
            (go_simp; go_at_call 8; refine (clip_any x _ hx0 hx1).mono ?_; rintro e w5 ⟨⟨b, rfl, hbl, hbu⟩, rfl⟩)
            refine hK.out _ _ (Or.inr (cif (by repeat (first | exact Below.refl _ _ | refine below_dN ?_ _ | refine Below.drew ?_ | refine Below.alloc ?_ (by first | omega | (simp; done) | (simp; omega)) _ | refine Below.setCell ?_ (by first | omega | (simp; done) | (simp; omega)) _ | refine below_step (by assumption) (by first | omega | (simp; done) | (simp; omega)) ?_)))) (fun hG4 => wpN ?_); clear hK hG3
            refine wpAnyG_ready (rs := [3]) (by kernel_rfl) (by simp) (AllG.cons rfl hG4 (fun K hK => ?_) AllG.nil)
            (go_simp; go_at_call 12; refine (KL.out b _ hbl hbu (by repeat (first | exact Below.refl _ _ | refine below_dN ?_ _ | refine Below.drew ?_ | refine Below.alloc ?_ (by first | omega | (simp; done) | (simp; omega)) _ | refine Below.setCell ?_ (by first | omega | (simp; done) | (simp; omega)) _ | refine below_step (by assumption) (by first | omega | (simp; done) | (simp; omega)) ?_))).mono ?_; rintro e w5 ⟨hlr, hb5⟩; obtain ⟨B, NA, n, nc, v, rfl, hlv⟩ := lw_flat hlr; have q0 : w5.cell? ⟨w4.heap.size, 0, none⟩ = some (.int .i64 0) := (hb5.cell (p := ⟨w4.heap.size, 0, none⟩) (by simp)).trans (by simp); have q1 : w5.cell? ⟨w4.heap.size, 1, none⟩ = some (.slice none 0 0) := (hb5.cell (p := ⟨w4.heap.size, 1, none⟩) (by simp)).trans (by simp); have q2 : w5.frozen? ⟨w4.heap.size, 0, none⟩ = false := (hb5.frozen (p := ⟨w4.heap.size, 0, none⟩) (by simp)).trans (by simp); have q3 : w5.frozen? ⟨w4.heap.size, 1, none⟩ = false := (hb5.frozen (p := ⟨w4.heap.size, 1, none⟩) (by simp)).trans (by simp); have q4 : w4.heap.size < w5.heap.size := (by have := hb5.size; simp at this; omega))
            refine hK.out _ _ (Or.inl rfl) (fun hG5 => wpN ?_); clear hK hG4
            refine wpS1 4 hG5 ?_; intro hG6; clear hG5
            refine wpS1 5 hG6 ?_; intro hG7; clear hG6
            refine wpS1 6 hG7 ?_; intro hG8; clear hG7
            refine wpAnyG_ready (rs := [8]) (by kernel_rfl) (by simp) (AllG.cons rfl hG8 (fun K hK => ?_) AllG.nil)
            (go_simp)
            refine hK.out _ _ (Or.inl rfl) (fun hG9 => wpN ?_); clear hK hG8
            refine wpS1 9 hG9 ?_; intro hG10; clear hG9
            refine wpAnyG_done (by kernel_rfl) ?_ _; clear hG10
            rotate_left
            · have hb45 : Below w4.heap.size w4 w5 := (Below.refl _ _).drew.trans hb5
              have hz45 := hb45.size
              have hres : LwY t w4 (.pointer (some ⟨w5.heap.size, 0, none⟩)) v (w5.alloc (.cells #[.int .i64 B, .slice NA n nc] 41)) := ⟨⟨w5.heap.size, b, B, NA, n, nc, rfl, hz45, BxI.new _ _ _, hbl, hbu, hlv.move fun ns h => h.up ((Below.refl _ _).alloc (Nat.le_refl _) _)⟩, hb45.alloc hz45 _⟩
              clear hlv hb45
              go_wp2
              go_meet
              exact hres
            · have hW : Below w4.heap.size w4 ((w4.alloc (.cells #[.int .i64 0, .slice none 0 0] 41)).drew) := by repeat (first | exact Below.refl _ _ | refine below_dN ?_ _ | refine Below.drew ?_ | refine Below.alloc ?_ (by first | omega | (simp; done) | (simp; omega)) _ | refine Below.setCell ?_ (by first | omega | (simp; done) | (simp; omega)) _ | refine below_step (by assumption) (by first | omega | (simp; done) | (simp; omega)) ?_)
              have hX5 : BxI w5 w4.heap.size 41 #[.int .i64 0, .slice none 0 0] := ((BxI.new w4 _ _).up (Below.refl _ _).drew).up hb5
              have hb6 : Below w4.heap.size w4 ((w5.setCell ⟨w4.heap.size, 0, none⟩ (.int .i64 B)).setCell ⟨w4.heap.size, 1, none⟩ (.slice NA n nc)) := ret_below (hW.trans (hb5.mono hW.size)) (Nat.le_refl _)
              have hX6 : BxI ((w5.setCell ⟨w4.heap.size, 0, none⟩ (.int .i64 B)).setCell ⟨w4.heap.size, 1, none⟩ (.slice NA n nc)) w4.heap.size 41 #[.int .i64 B, .slice NA n nc] := ret_box hX5
              have hlv6 : LwV t b B NA n nc v ((w5.setCell ⟨w4.heap.size, 0, none⟩ (.int .i64 B)).setCell ⟨w4.heap.size, 1, none⟩ (.slice NA n nc)) := hlv.move fun ns h => (nls_set (nls_set (nls_box hX5 h) 0 _) 1 _).sub (fun _ _ h => h.elim)
              have hres : LwY t w4 (.pointer (some ⟨w4.heap.size, 0, none⟩)) v ((w5.setCell ⟨w4.heap.size, 0, none⟩ (.int .i64 B)).setCell ⟨w4.heap.size, 1, none⟩ (.slice NA n nc)) := ⟨⟨w4.heap.size, b, B, NA, n, nc, rfl, Nat.le_refl _, hX6, hbl, hbu, hlv6⟩, hb6⟩
              clear hX5 hX6 hlv6 hb6 hlv q0 q1 q2 q3 q4
              go_wp2
              go_meet
              exact hres
            · have hW : Below w4.heap.size w4 ((w4.alloc (.cells #[.int .i64 0, .slice none 0 0] 41)).drew) := by repeat (first | exact Below.refl _ _ | refine below_dN ?_ _ | refine Below.drew ?_ | refine Below.alloc ?_ (by first | omega | (simp; done) | (simp; omega)) _ | refine Below.setCell ?_ (by first | omega | (simp; done) | (simp; omega)) _ | refine below_step (by assumption) (by first | omega | (simp; done) | (simp; omega)) ?_)
              have hX5 : BxI w5 w4.heap.size 41 #[.int .i64 0, .slice none 0 0] := ((BxI.new w4 _ _).up (Below.refl _ _).drew).up hb5
              have hb6 : Below w4.heap.size w4 ((w5.setCell ⟨w4.heap.size, 0, none⟩ (.int .i64 B)).setCell ⟨w4.heap.size, 1, none⟩ (.slice NA n nc)) := ret_below (hW.trans (hb5.mono hW.size)) (Nat.le_refl _)
              have hX6 : BxI ((w5.setCell ⟨w4.heap.size, 0, none⟩ (.int .i64 B)).setCell ⟨w4.heap.size, 1, none⟩ (.slice NA n nc)) w4.heap.size 41 #[.int .i64 B, .slice NA n nc] := ret_box hX5
              have hlv6 : LwV t b B NA n nc v ((w5.setCell ⟨w4.heap.size, 0, none⟩ (.int .i64 B)).setCell ⟨w4.heap.size, 1, none⟩ (.slice NA n nc)) := hlv.move fun ns h => (nls_set (nls_set (nls_box hX5 h) 0 _) 1 _).sub (fun _ _ h => h.elim)
              have hres : LwY t w4 (.pointer (some ⟨w4.heap.size, 0, none⟩)) v ((w5.setCell ⟨w4.heap.size, 0, none⟩ (.int .i64 B)).setCell ⟨w4.heap.size, 1, none⟩ (.slice NA n nc)) := ⟨⟨w4.heap.size, b, B, NA, n, nc, rfl, Nat.le_refl _, hX6, hbl, hbu, hlv6⟩, hb6⟩
              clear hX5 hX6 hlv6 hb6 hlv q0 q1 q2 q3 q4
              go_wp2
              go_meet
              exact hres
          case rest =>
            obtain ⟨⟨Y, b, B, NA, n, nc, rfl, hY, hbx, hb0, hb1, hlv⟩, hbc⟩ := hcut
            have HBwc := Lib.hid (show Below w.heap.size w wc from HBw4.out.trans (hbc.mono HBw4.out.size))
            have HXc := Lib.hid (HX4.out.up hbc)
            have HBX := Lib.hid hbx
            have hYl := hbx.lt
            clear x0 x1 x2 x3 KL hbc
            rcases hlv.two with ⟨ns, rfl, rfl, rfl, hnl, hlc⟩ | ⟨ec, rfl⟩
            · have y0 := HBX.out.cell 0 (.int .i64 B) rfl
              have y1 := HBX.out.cell 1 (.slice NA ns.length nc) rfl
              have KF := Lib.hid (cformat_any B ns NA nc wc hnl hlc.chk (HE.out.up HBwc.out))
              clear hlv hbx hnl hlc HBX
              go_wp2_with fail
              refine KF.out.mono ?_
              rintro e w6 ⟨hf, hb6⟩
              have HBw6 := Lib.hid (show Below w.heap.size w w6 from HBwc.out.trans (hb6.mono HBwc.out.size))
              have HX6 := Lib.hid (HXc.out.up hb6)
              have hz6 := HBw6.out.size
              clear hb6 KF y0 y1
              rcases hf with ⟨rfl, hsz⟩ | ⟨rfl, _⟩
              · obtain ⟨s0, hs0⟩ : ∃ s0 : ByteArray, s0 = ⟨(certL B ns).toArray⟩ := ⟨_, rfl⟩
                have hss : s0.size ≤ 65536 := by rw [hs0]; exact hsz
                rw [← hs0]
                clear hs0 hsz
                go_wp2_with fail
                go_loopw [10, 62] (fun v10 v62 wr => ∃ (s : ByteArray) (i : Nat), v10 = .string s ∧ v62 = .int .i64 i ∧ i ≤ l.length ∧ s.size ≤ 65536 + i ∧ Hid (Below w6.heap.size w6 wr)) (fun _ v62 _ => l.length - (intOf v62).toNat)
                case atStart => exact ⟨s0, 0, rfl, rfl, by omega, by omega, Lib.hid (Below.refl _ _)⟩
                case round =>
                  obtain ⟨s, i, rfl, rfl, hi, hsi, hbel⟩ := hrel
                  obtain ⟨wt, rfl⟩ : ∃ wt : World, wt = wr := ⟨_, rfl⟩
                  have HBwt := Lib.hid (show Below w.heap.size w wt from HBw6.out.trans (hbel.out.mono HBw6.out.size))
                  have hzt := hbel.out.size
                  by_cases hlt : i < l.length
                  · obtain ⟨cb, off, rfl, hcb, ⟨d0, d1, d2⟩, hok⟩ := (HL.out.up HBwt.out).at_ hlt
                    obtain ⟨g, hg⟩ : ∃ g, g = chg l i := ⟨_, rfl⟩
                    rw [← hg] at d0 d1 d2 hok
                    obtain ⟨⟨g0, g1⟩, ⟨g2, g3⟩, g4, g5⟩ := hok
                    clear hg
                    go_wp2_with (go_at_call 20; refine (changed_any s g.at_ g.kd g.bt _ (by omega) g0 g1 g2 g3 g4 g5).mono ?_; rintro e w7 ⟨⟨r, rfl, hr⟩, hb7⟩)
                    go_roundw
                    case rel => exact ⟨r, i + 1, rfl, by go_num, by omega, by omega, Lib.hid (hbel.out.trans ((((Below.refl _ _).alloc (Nat.le_refl _) _).trans (hb7.mono (by simp))).mono hzt))⟩
                    case measure => simp [intOf]; omega
                  · have KP := Lib.hid (cparse_any s wt (by omega) (HM.out.up HBwt.out))
                    go_wp2_with fail
                    refine KP.out.mono ?_
                    rintro e w7 ⟨hp, hb7⟩
                    have HBw7 := Lib.hid (show Below w.heap.size w w7 from HBwt.out.trans (hb7.mono HBwt.out.size))
                    have HX7 := Lib.hid ((HX6.out.up hbel.out).up hb7)
                    clear hb7 KP
                    rcases hp with ⟨b2, NA2, nc2, ns2, ln, rfl, hn2, hc2⟩ | ⟨ln, ec, rfl⟩
                    · obtain ⟨W8, hW8⟩ : ∃ W8, W8 = w7.alloc (.cells #[.int .i64 b2, .slice NA2 ns2.length nc2] 41) := ⟨_, rfl⟩
                      have HB8 := Lib.hid (show Below w7.heap.size w7 W8 by rw [hW8]; exact (Below.refl _ _).alloc (Nat.le_refl _) _)
                      have HBx8 := Lib.hid (show BxI W8 w7.heap.size 41 #[.int .i64 b2, .slice NA2 ns2.length nc2] by rw [hW8]; exact BxI.new _ _ _)
                      have HBw8 := Lib.hid (show Below w.heap.size w W8 from HBw7.out.trans (HB8.out.mono HBw7.out.size))
                      have KV := Lib.hid (verify_any t p b2 NA2 ns2 nc2 20000 W8 (HT.out.up HBw8.out) HSM.out.chk (hn2.up HB8.out) (by decide) (by decide))
                      have x0 := HX7.out.cell 0 (.slice p.av t.vars.length p.cv) rfl
                      have x1 := HX7.out.cell 1 (.slice p.ai t.init.length p.ci) rfl
                      have x2 := HX7.out.cell 2 (.slice p.ag t.goal.length p.cg) rfl
                      have x3 := HX7.out.cell 3 (.slice p.ao t.ops.length p.co) rfl
                      have hX7 := HX7.out.lt
                      clear hn2
                      go_wp2_with fail
                      rw [← hW8]
                      have HW8 := Lib.hid hW8
                      clear hW8 x0 x1 x2 x3
                      refine KV.out.mono ?_
                      rintro e w9 ⟨⟨ec, rfl, hve⟩, hb9⟩
                      have HBw9 := Lib.hid (show Below w.heap.size w w9 from HBw8.out.trans (hb9.mono HBw8.out.size))
                      have hx9 := HBx8.out.up hb9
                      have z0 := hx9.cell 0 (.int .i64 b2) rfl
                      have z1 := hx9.cell 1 (.slice NA2 ns2.length nc2) rfl
                      have hz9 := hx9.lt
                      clear hb9 hx9 KV
                      by_cases he : ec = 0
                      · have hce := hve.1 he
                        have hbu := (chk_of hce.1).2.1
                        have hcb := cert_best HSM.out.right hce.2 HD.out (by unfold INF; omega)
                        rw [he, erV_0]
                        clear he hve hce
                        unfold INF at hcb
                        rcases hcb with ⟨hbn, hdi⟩ | ⟨hbn, hdi⟩
                        · have f1 : decide (b2 < 0) = true := decide_eq_true hbn
                          subst hdi
                          go_wp2
                          go_ret
                          exact ⟨rfl, HBw9.out⟩
                        · have f1 : decide (b2 < 0) = false := decide_eq_false (by omega)
                          have f2 : decide (0 ≤ b2) = true := decide_eq_true hbn
                          have f3 : decide (b2 ≤ d) = true := decide_eq_true hdi
                          go_wp2
                          go_ret
                          exact ⟨rfl, HBw9.out⟩
                      · rw [erV_nz he]
                        clear he hve
                        go_wp2
                        go_ret
                        exact ⟨rfl, HBw9.out⟩
                    · go_wp2
                      go_ret
                      exact ⟨rfl, HBw7.out.alloc HBw7.out.size _⟩
              · go_wp2_with (go_at_call 17; refine (is55 _).mono ?_; rintro e w' ⟨rfl, rfl⟩)
                go_ret
                exact ⟨rfl, HBw6.out⟩
            · clear hlv hbx
              go_wp2
              go_ret
              exact ⟨rfl, HBwc.out⟩
end Go.Proofs.YtlkebhiaimijiaaGreatDoor

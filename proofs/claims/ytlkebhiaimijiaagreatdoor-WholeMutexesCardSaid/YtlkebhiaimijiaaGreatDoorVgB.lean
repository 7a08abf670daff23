/- stratagemtop.certifyAwake. -/
import Derived.Test.YtlkebhiaimijiaaGreatDoorBel
import Derived.Test.YtlkebhiaimijiaaGreatDoorVeE
import Derived.Test.YtlkebhiaimijiaaGreatDoorVfB
import Derived.Test.YtlkebhiaimijiaaGreatDoorVcD
namespace Go.Proofs.YtlkebhiaimijiaaGreatDoor
set_option linter.unusedSimpArgs false
set_option linter.unusedVariables false
open Go Go.RowKit
open Go.Lib (decDigits itoa decDigits_one)
set_option linter.unusedVariables false

def TAw : Tsk := ⟨[2], [0], [(0, 1)], [⟨ByteArray.empty, 2, [], [⟨[], 0, 1⟩]⟩]⟩
def LAw (B : Nat) : Lies := ⟨some ⟨B, 0, none⟩, some ⟨B + 1, 0, none⟩, some ⟨B + 1 + 1, 0, none⟩, some ⟨B + 1 + 1 + 1 + 1, 0, none⟩, 1, 1, 1, 1⟩
theorem one_int {w : World} {C b : Nat} {x : Int} (hb : b < C) (h0 : w.cell? ⟨b, 0, none⟩ = some (.int .i64 x)) : IntsAt w C (some ⟨b, 0, none⟩) [x] :=
 ⟨by simp, fun _ => ⟨b, 0, rfl, hb, fun k hk => by
  have : k = 0 := by simp at hk; omega
  subst this
  simpa [nth] using h0⟩⟩
theorem taskAw {w : World} {B : Nat} (hs : B + 5 ≤ w.heap.size)
  (a0 : w.cell? ⟨B, 0, none⟩ = some (.int .i64 2)) (b0 : w.cell? ⟨B + 1, 0, none⟩ = some (.int .i64 0))
  (c0 : w.cell? ⟨B + 1 + 1, 0, none⟩ = some (.int .i64 0)) (c1 : w.cell? ⟨B + 1 + 1, 1, none⟩ = some (.int .i64 1))
  (e0 : w.cell? ⟨B + 1 + 1 + 1, 0, none⟩ = some (.slice none 0 0)) (e1 : w.cell? ⟨B + 1 + 1 + 1, 1, none⟩ = some (.int .i64 0)) (e2 : w.cell? ⟨B + 1 + 1 + 1, 2, none⟩ = some (.int .i64 1))
  (g0 : w.cell? ⟨B + 1 + 1 + 1 + 1, 0, none⟩ = some (.string ByteArray.empty)) (g1 : w.cell? ⟨B + 1 + 1 + 1 + 1, 1, none⟩ = some (.int .i64 2)) (g2 : w.cell? ⟨B + 1 + 1 + 1 + 1, 2, none⟩ = some (.slice none 0 0)) (g3 : w.cell? ⟨B + 1 + 1 + 1 + 1, 3, none⟩ = some (.slice (some ⟨B + 1 + 1 + 1, 0, none⟩) 1 1)) :
  TaskAt w w.heap.size TAw (LAw B) where
 vars := one_int (by omega) a0
 init := one_int (by omega) b0
 goal := factsAt_one (by omega) c0 c1
 ops := ⟨by simp [TAw], fun _ => ⟨B + 1 + 1 + 1 + 1, 0, rfl, by omega, fun k hk => by
  have : k = 0 := by simp [TAw] at hk; omega
  subst this
  refine ⟨_, _, _, _, g0, by decide, g1, g2, ⟨by decide, fun h => absurd h (by decide)⟩, g3, by decide, fun _ => ⟨B + 1 + 1 + 1, 0, rfl, by omega, fun j hj => ?_⟩⟩
  have : j = 0 := by simp [TAw, opr] at hj; omega
  subst this
  exact ⟨_, _, e0, ⟨by decide, fun h => absurd h (by decide)⟩, e1, e2⟩⟩⟩
theorem chkAw : chkC TAw = 0 := by decide +kernel
theorem npAw : npV TAw.vars = 3 := by decide +kernel
theorem rchAw {f : List Fct} {d : Int} (h : Rch TAw 2 f d) : f = [(0, 1)] ∧ d = 0 := by
  induction h with
  | goal => exact ⟨rfl, rfl⟩
  | @step f d k z _ hk hc hz ih =>
    have : k = 0 := by have : TAw.ops.length = 1 := rfl
                       omega
    subst this
    obtain ⟨rfl, rfl⟩ := ih
    exfalso
    unfold Cnt at hc
    have : (opr TAw.ops 0).cost = 2 := rfl
    omega
theorem rightAw : Right TAw := right_of chkAw
theorem plnAw {s : List Int} {c : Int} (h : PlanC TAw s c) : hoB TAw.goal s = true ∨ 2 ≤ c := by
  induction h with
  | goal hg => exact .inl hg
  | @step s k c hk hp h ih =>
    have : k = 0 := by have : TAw.ops.length = 1 := rfl
                       omega
    subst this
    have h1 : (opr TAw.ops 0).cost = 2 := rfl
    have h2 := plan_nn rightAw h
    exact .inr (by omega)
theorem lowAw {ns : List Ngd} (h : LowC TAw 2 ns) : ∃ (a : Option Addr) (c : Nat), ns = [⟨a, c, [(0, 1)], 0⟩] := by
 have hall : ∀ n ∈ ns, n.l = [(0, 1)] ∧ n.d = 0 := fun n hn => rchAw (h.rch n hn)
 obtain ⟨n, hn, _⟩ := h.syn.goal (by decide)
 obtain ⟨m, hm, rfl⟩ := nogs_mem.1 hn
 cases ns with
 | nil => cases hm
 | cons x r =>
  have hx := hall x (by simp)
  cases r with
  | nil =>
   obtain ⟨xa, xc, xl, xd⟩ := x
   obtain ⟨rfl, rfl⟩ := hx
   exact ⟨xa, xc, rfl⟩
  | cons y r =>
   have hy := hall y (by simp)
   have hp := h.nosub
   simp only [List.map_cons, List.pairwise_cons] at hp
   exact absurd (by rw [hx.1, hy.1]; exact sub_refl _) (hp.1 y.l (by simp))
theorem txtAw (a : Option Addr) (c : Nat) : (⟨(certL 2 [⟨a, c, [(0, 1)], 0⟩]).toArray⟩ : ByteArray) = ⟨#[108, 111, 119, 101, 114, 32, 50, 10, 110, 111, 103, 111, 111, 100, 32, 48, 58, 32, 48, 61, 49, 10]⟩ := by
 have e0 : itoa 0 = [48] := by decide +kernel
 have e1 : itoa 1 = [49] := by decide +kernel
 have e2 : itoa 2 = [50] := by decide +kernel
 apply ByteArray.ext
 simp [certL, hdA, lnL, ngL, ngA, fcL, fcA, itB, ByteArray.data_append, e0, e1, e2]

def boxAw (B : Nat) : Obj := .cells #[.slice (some ⟨B, 0, none⟩) 1 1, .slice (some ⟨B + 1, 0, none⟩) 1 1, .slice (some ⟨B + 1 + 1, 0, none⟩) 1 1, .slice (some ⟨B + 1 + 1 + 1 + 1, 0, none⟩) 1 1] 26
def worldA5 (w : World) : World := (((((w.alloc (.cells #[.int .i64 2] 3)).alloc (.cells #[.int .i64 0] 3)).alloc (.cells #[.int .i64 0, .int .i64 1] 68)).alloc (.cells #[.slice none 0 0, .int .i64 0, .int .i64 1] 65)).alloc (.cells #[.string { data := #[] }, .int .i64 2, .slice none 0 0, .slice (some ⟨w.heap.size + 1 + 1 + 1, 0, none⟩) 1 1] 63))
theorem worldA5_z (w : World) : (worldA5 w).heap.size = w.heap.size + 1 + 1 + 1 + 1 + 1 := by unfold worldA5; simp
def worldAw (w : World) : World := (worldA5 w).alloc (boxAw w.heap.size)
theorem worldA5_t (w : World) : TaskAt (worldA5 w) (worldA5 w).heap.size TAw (LAw w.heap.size) := by
 have hb : Below (w.alloc (.cells #[.int .i64 2] 3)).heap.size (w.alloc (.cells #[.int .i64 2] 3)) (worldA5 w) := by unfold worldA5; exact bel
 refine taskAw (by rw [worldA5_z]; omega) (((BxI.new w 3 #[.int .i64 2]).up hb).cell 0 _ rfl) ?_ ?_ ?_ ?_ ?_ ?_ ?_ ?_ ?_ ?_
 all_goals unfold worldA5
 all_goals (first | (simp [World.cell?_alloc_at, World.cell?_alloc_past]; done) | (simp [World.cell?_alloc_at, World.cell?_alloc_past]; rfl))
theorem worldAw_t (w : World) : TaskAt (worldAw w) (worldAw w).heap.size TAw (LAw w.heap.size) := by
 unfold worldAw
 exact (worldA5_t w).up ((Below.refl _ _).alloc (Nat.le_refl _) _)
theorem worldAw_b (w : World) : Below w.heap.size w (worldAw w) := by unfold worldAw worldA5; exact bel
theorem worldAw_x (w : World) : BxI (worldAw w) (w.heap.size + 1 + 1 + 1 + 1 + 1) 26 #[.slice (some ⟨w.heap.size, 0, none⟩) 1 1, .slice (some ⟨w.heap.size + 1, 0, none⟩) 1 1, .slice (some ⟨w.heap.size + 1 + 1, 0, none⟩) 1 1, .slice (some ⟨w.heap.size + 1 + 1 + 1 + 1, 0, none⟩) 1 1] := by
 rw [← worldA5_z]
 unfold worldAw boxAw
 exact BxI.new _ _ _
theorem errAw {lim ec : Int} (hl : lim = 10) (h : (ec = 13 ∧ ∃ c, PlanC TAw TAw.init c ∧ ((2 : Int) < 0 ∨ c < 2)) ∨ (ec = 10 ∧ lim + 1 ≤ npV TAw.vars) ∨ (ec = 5 ∧ 1025 ≤ npV TAw.vars)) : False := by
 rw [npAw] at h
 rcases h with ⟨_, c, h1, h2⟩ | h | h
 ·rcases plnAw h1 with h3 | h3
  ·exact absurd h3 (by decide +kernel)
  ·omega
 ·omega
 ·omega

set_option maxRecDepth 100000 in
set_option maxHeartbeats 8000000 in
theorem certifyAwake_any (w : World) (hE : EnvT w) : Calls Tryz.prog 18 #[] w fun e w' => e = .returned (.bool true) ∧ Below w.heap.size w w' := by
 obtain ⟨W1, hW1⟩ : ∃ W1, W1 = worldAw w := ⟨_, rfl⟩
 have HT1 := Lib.hid (show TaskAt W1 W1.heap.size TAw (LAw w.heap.size) by rw [hW1]; exact worldAw_t w)
 have HB1 := Lib.hid (show Below w.heap.size w W1 by rw [hW1]; exact worldAw_b w)
 have hx1 : BxI W1 (w.heap.size + 1 + 1 + 1 + 1 + 1) 26 #[.slice (some ⟨w.heap.size, 0, none⟩) 1 1, .slice (some ⟨w.heap.size + 1, 0, none⟩) 1 1, .slice (some ⟨w.heap.size + 1 + 1, 0, none⟩) 1 1, .slice (some ⟨w.heap.size + 1 + 1 + 1 + 1, 0, none⟩) 1 1] := by rw [hW1]; exact worldAw_x w
 have HX1 := Lib.hid hx1
 have KL := Lib.hid (lower_any TAw (LAw w.heap.size) 2 10 W1 HT1.out chkAw (by decide) (by decide) (by decide) (by decide) (by rw [npAw]; decide))
 have HE1 := Lib.hid (hE.up HB1.out)
 unfold worldAw worldA5 boxAw at hW1
 clear hE hx1
 go_enter Tryz.func18, Tryz.ntmps18
 go_wp2_with fail
 rw [← hW1]
 have HW1 := Lib.hid hW1
 clear hW1
 refine KL.out.mono ?_
 rintro e w2 ⟨hl, hb2⟩
 rcases hl with ⟨NA, nc, ns, rfl, hnl, hlc⟩ | ⟨ec, rfl, her⟩
 ·obtain ⟨a, c, rfl⟩ := lowAw hlc
  obtain ⟨W3, hW3⟩ : ∃ W3, W3 = w2.alloc (.cells #[.int .i64 2, .slice NA 1 nc] 41) := ⟨_, rfl⟩
  have HB3 := Lib.hid (show Below w2.heap.size w2 W3 by rw [hW3]; exact (Below.refl _ _).alloc (Nat.le_refl _) _)
  have HC3 := Lib.hid (show BxI W3 w2.heap.size 41 #[.int .i64 2, .slice NA 1 nc] by rw [hW3]; exact BxI.new _ _ _)
  have hz2 := hb2.size
  have HB13 := Lib.hid (show Below W1.heap.size W1 W3 from hb2.trans (HB3.out.mono hz2))
  have HE3 := Lib.hid (HE1.out.up HB13.out)
  have HN3 := Lib.hid (hnl.up HB3.out)
  have KF := Lib.hid (cformat_any 2 [⟨a, c, [(0, 1)], 0⟩] NA nc W3 HN3.out hlc.chk HE3.out)
  have HLC := Lib.hid hlc
  clear hnl hlc
  go_wp2_with fail
  rw [← hW3]
  have HW3 := Lib.hid hW3
  clear hW3
  refine KF.out.mono ?_
  rintro e w4 ⟨hf, hb4⟩
  have hcl : (certL 2 [⟨a, c, [(0, 1)], 0⟩]).length = 22 := by
   have := congrArg ByteArray.size (txtAw a c)
   simpa [ByteArray.size] using this
  rcases hf with ⟨rfl, _⟩ | ⟨rfl, hno⟩
  ·rw [txtAw]
   have HB14 := Lib.hid (show Below W1.heap.size W1 w4 from HB13.out.trans (hb4.mono HB13.out.size))
   have hx4 := HX1.out.up HB14.out
   have hc4 := HC3.out.up hb4
   have hn4 := HN3.out.up hb4
   have x0 := hx4.cell 0 (.slice (some ⟨w.heap.size, 0, none⟩) 1 1) rfl
   have x1 := hx4.cell 1 (.slice (some ⟨w.heap.size + 1, 0, none⟩) 1 1) rfl
   have x2 := hx4.cell 2 (.slice (some ⟨w.heap.size + 1 + 1, 0, none⟩) 1 1) rfl
   have x3 := hx4.cell 3 (.slice (some ⟨w.heap.size + 1 + 1 + 1 + 1, 0, none⟩) 1 1) rfl
   have y0 := hc4.cell 0 (.int .i64 2) rfl
   have y1 := hc4.cell 1 (.slice NA 1 nc) rfl
   have KV := Lib.hid (verify_any TAw (LAw w.heap.size) 2 NA [⟨a, c, [(0, 1)], 0⟩] nc 100 w4 (HT1.out.up HB14.out) chkAw hn4 (by decide) (by decide))
   have hfu : Full TAw 2 [⟨a, c, [(0, 1)], 0⟩] 100 := ⟨by rw [npAw]; decide, HLC.out.syn, by rw [npAw]; show (((1 * 1 + 1) * 3 + 1 : Nat) : Int) < 100; decide⟩
   have HFU := Lib.hid hfu
   clear hfu hn4 hc4 hx4 hcl
   have HB4 := Lib.hid hb4
   clear hb4 hb2
   go_wp2_with fail
   refine KV.out.mono ?_
   rintro e w5 ⟨⟨ec, rfl, hve⟩, hb5⟩
   have he0 : ec = 0 := hve.2 HFU.out HLC.out.chk
   rw [he0, erV_0]
   clear he0 hve
   go_wp2
   go_ret
   exact ⟨rfl, HB1.out.trans ((HB14.out.trans (hb5.mono HB14.out.size)).mono HB1.out.size)⟩
  ·omega
 ·exact (errAw rfl her).elim
end Go.Proofs.YtlkebhiaimijiaaGreatDoor

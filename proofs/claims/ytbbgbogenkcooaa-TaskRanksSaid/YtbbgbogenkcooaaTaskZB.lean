/- Unrank; the law TaskRanks. -/
import Derived.Test.YtbbgbogenkcooaaTaskZ
import Derived.OwnWalk
namespace Go.Proofs.Ytbbgbogenkcooaa
set_option linter.unusedSimpArgs false
set_option linter.unusedVariables false
open Go.RowKit
set_option linter.unusedVariables false

theorem made_ic (n : Nat) : (madeCells (Value.int .i64 0).cells (n * 1)).toList = ic (List.replicate n 0) := by
  apply List.ext_getElem
  · simp [madeCells, ic]
  · intro k h1 h2
    simp [madeCells, ic, Value.cells, Nat.mod_one]

def unC (t : Tsk) (n : Int) : Int := if ctC t = 0 then (if n < 0 then 1 else if mny t.vars ≤ n then 1 else 0) else ctC t
def unL (t : Tsk) (n : Int) : List Int := if unC t n = 0 then od t.vars n t.vars.length else []
theorem un0 {t : Tsk} {n : Int} (h : unC t n = 0) : ctC t = 0 ∧ 0 ≤ n ∧ n < mny t.vars := by
  unfold unC at h
  by_cases h1 : ctC t = 0
  · rw [if_pos h1] at h
    split at h
    · cases h
    · split at h
      · cases h
      · exact ⟨h1, by omega, by omega⟩
  · rw [if_neg h1] at h; exact absurd h h1

set_option maxRecDepth 4000 in
set_option maxHeartbeats 4000000 in
theorem unrank_any (t : Tsk) (p : Lies) (n : Int) (w : World) (ht : TaskAt w w.heap.size t p) (n1 : -9223372036854775808 ≤ n) (n2 : n ≤ 9223372036854775807) :
    Calls Try.prog 53 #[TaskV t p, .int .i64 n] w fun e w' => (∃ v, e = .returned (.tuple #[v, erV (unC t n)]) ∧ GotInts w' v (unL t n)) ∧ Below w.heap.size w w' := by
  have k1 := fun w1 (hb : Below w.heap.size w w1) => counted_any t p w1 (ht.up hb)
  obtain ⟨av, ai, ag, ao, cv, ci, cg, co⟩ := p
  unfold TaskV at *
  dsimp only at *
  have lv := ht.vars.len
  by_cases e0 : ctC t = 0
  case neg =>
    have Hr := Lib.hid (show unC t n = ctC t by unfold unC; rw [if_neg e0])
    have He := Lib.hid (erV_ne e0)
    have E0 := Lib.hid e0
    simp only [He.out] at k1
    clear e0
    go_enter Try.func53, Try.ntmps53
    go_wp2_with fail; refine (k1 _ (by repeat (first | exact Below.refl _ _ | refine below_dN ?_ _ | refine Below.drew ?_ | refine Below.alloc ?_ (by first | omega | (simp; done) | (simp; omega)) _ | refine Below.setCell ?_ (by first | omega | (simp; done) | (simp; omega)) _ | refine below_step (by assumption) (by first | omega | (simp; done) | (simp; omega)) ?_))).mono ?_; rintro e w1 ⟨rfl, hb1⟩; obtain ⟨hc1, hf1, hz1, hlt1, hle1⟩ := cellsIf hb1 (by (try simp); exact rfl); (try have : w.heap.size < w1.heap.size := (by omega)); (try have : w.heap.size < w1.heap.size + 1 := (by omega)); (try have : w.heap.size < w1.heap.size + 1 + 1 := (by omega)); (try have : w.heap.size + 1 < w1.heap.size := (by omega)); (try have : w.heap.size + 1 < w1.heap.size + 1 := (by omega)); (try have : w.heap.size + 1 < w1.heap.size + 1 + 1 := (by omega)); (try have : w.heap.size + 1 + 1 < w1.heap.size := (by omega)); (try have : w.heap.size + 1 + 1 < w1.heap.size + 1 := (by omega)); (try have : w.heap.size + 1 + 1 < w1.heap.size + 1 + 1 := (by omega))
    go_wp2
    refine bodyPost_ret (v := .tuple #[.slice none 0 0, .iface 90 (.int .i64 (ctC t))]) (by simp [results, Try.results53, go_sem]) rfl ⟨⟨_, by rw [Hr.out, He.out], by unfold unL; rw [Hr.out, if_neg E0.out]; exact got_nil _⟩, by repeat (first | exact Below.refl _ _ | refine below_dN ?_ _ | refine Below.drew ?_ | refine Below.alloc ?_ (by first | omega | (simp; done) | (simp; omega)) _ | refine Below.setCell ?_ (by first | omega | (simp; done) | (simp; omega)) _ | refine below_step (by assumption) (by first | omega | (simp; done) | (simp; omega)) ?_)⟩
  have Hr := Lib.hid (show unC t n = if n < 0 then 1 else if mny t.vars ≤ n then 1 else 0 by unfold unC; rw [if_pos e0])
  have Hq := Lib.hid (ct0 e0)
  have Hv := Lib.hid (out_vars (chk0 Hq.out.1).2.1)
  simp only [ctV_0 e0, e0, erV_0] at k1
  clear e0
  cases e1 : decide (n < 0)
  case true =>
    have Hc := Lib.hid (show unC t n = 1 by rw [Hr.out, if_pos (by simpa using e1)])
    go_enter Try.func53, Try.ntmps53
    go_wp2_with fail; refine (k1 _ (by repeat (first | exact Below.refl _ _ | refine below_dN ?_ _ | refine Below.drew ?_ | refine Below.alloc ?_ (by first | omega | (simp; done) | (simp; omega)) _ | refine Below.setCell ?_ (by first | omega | (simp; done) | (simp; omega)) _ | refine below_step (by assumption) (by first | omega | (simp; done) | (simp; omega)) ?_))).mono ?_; rintro e w1 ⟨rfl, hb1⟩; obtain ⟨hc1, hf1, hz1, hlt1, hle1⟩ := cellsIf hb1 (by (try simp); exact rfl); (try have : w.heap.size < w1.heap.size := (by omega)); (try have : w.heap.size < w1.heap.size + 1 := (by omega)); (try have : w.heap.size < w1.heap.size + 1 + 1 := (by omega)); (try have : w.heap.size + 1 < w1.heap.size := (by omega)); (try have : w.heap.size + 1 < w1.heap.size + 1 := (by omega)); (try have : w.heap.size + 1 < w1.heap.size + 1 + 1 := (by omega)); (try have : w.heap.size + 1 + 1 < w1.heap.size := (by omega)); (try have : w.heap.size + 1 + 1 < w1.heap.size + 1 := (by omega)); (try have : w.heap.size + 1 + 1 < w1.heap.size + 1 + 1 := (by omega))
    go_wp2
    refine bodyPost_ret (v := .tuple #[.slice none 0 0, .iface 90 (.int .i64 1)]) (by simp [results, Try.results53, go_sem]) rfl ⟨⟨_, by rw [Hc.out]; rfl, by unfold unL; rw [Hc.out]; exact got_nil _⟩, by repeat (first | exact Below.refl _ _ | refine below_dN ?_ _ | refine Below.drew ?_ | refine Below.alloc ?_ (by first | omega | (simp; done) | (simp; omega)) _ | refine Below.setCell ?_ (by first | omega | (simp; done) | (simp; omega)) _ | refine below_step (by assumption) (by first | omega | (simp; done) | (simp; omega)) ?_)⟩
  have n0 : 0 ≤ n := by simp at e1; omega
  cases e2 : decide (mny t.vars ≤ n)
  case true =>
    have Hc := Lib.hid (show unC t n = 1 by rw [Hr.out, if_neg (by omega), if_pos (by simpa using e2)])
    go_enter Try.func53, Try.ntmps53
    go_wp2_with fail; refine (k1 _ (by repeat (first | exact Below.refl _ _ | refine below_dN ?_ _ | refine Below.drew ?_ | refine Below.alloc ?_ (by first | omega | (simp; done) | (simp; omega)) _ | refine Below.setCell ?_ (by first | omega | (simp; done) | (simp; omega)) _ | refine below_step (by assumption) (by first | omega | (simp; done) | (simp; omega)) ?_))).mono ?_; rintro e w1 ⟨rfl, hb1⟩; obtain ⟨hc1, hf1, hz1, hlt1, hle1⟩ := cellsIf hb1 (by (try simp); exact rfl); (try have : w.heap.size < w1.heap.size := (by omega)); (try have : w.heap.size < w1.heap.size + 1 := (by omega)); (try have : w.heap.size < w1.heap.size + 1 + 1 := (by omega)); (try have : w.heap.size + 1 < w1.heap.size := (by omega)); (try have : w.heap.size + 1 < w1.heap.size + 1 := (by omega)); (try have : w.heap.size + 1 < w1.heap.size + 1 + 1 := (by omega)); (try have : w.heap.size + 1 + 1 < w1.heap.size := (by omega)); (try have : w.heap.size + 1 + 1 < w1.heap.size + 1 := (by omega)); (try have : w.heap.size + 1 + 1 < w1.heap.size + 1 + 1 := (by omega))
    go_wp2
    refine bodyPost_ret (v := .tuple #[.slice none 0 0, .iface 90 (.int .i64 1)]) (by simp [results, Try.results53, go_sem]) rfl ⟨⟨_, by rw [Hc.out]; rfl, by unfold unL; rw [Hc.out]; exact got_nil _⟩, by repeat (first | exact Below.refl _ _ | refine below_dN ?_ _ | refine Below.drew ?_ | refine Below.alloc ?_ (by first | omega | (simp; done) | (simp; omega)) _ | refine Below.setCell ?_ (by first | omega | (simp; done) | (simp; omega)) _ | refine below_step (by assumption) (by first | omega | (simp; done) | (simp; omega)) ?_)⟩
  have Hc := Lib.hid (show unC t n = 0 by rw [Hr.out, if_neg (by omega), if_neg (by simpa using e2)])
  have Hn := Lib.hid (show n < pr t.vars t.vars.length by have := Hq.out.2.2; simp at e2; omega)
  have Hlv := Lib.hid (lg_vars (chk0 Hq.out.1).1)
  have l64 : t.vars.length ≤ 64 := Hlv.out
  obtain ⟨inf, hi, iz0, iz1, iz2⟩ := info_parts infoI
  go_enter Try.func53, Try.ntmps53
  go_wp2_with fail; refine (k1 _ (by repeat (first | exact Below.refl _ _ | refine below_dN ?_ _ | refine Below.drew ?_ | refine Below.alloc ?_ (by first | omega | (simp; done) | (simp; omega)) _ | refine Below.setCell ?_ (by first | omega | (simp; done) | (simp; omega)) _ | refine below_step (by assumption) (by first | omega | (simp; done) | (simp; omega)) ?_))).mono ?_; rintro e w1 ⟨rfl, hb1⟩; obtain ⟨hc1, hf1, hz1, hlt1, hle1⟩ := cellsIf hb1 (by (try simp); exact rfl); (try have : w.heap.size < w1.heap.size := (by omega)); (try have : w.heap.size < w1.heap.size + 1 := (by omega)); (try have : w.heap.size < w1.heap.size + 1 + 1 := (by omega)); (try have : w.heap.size + 1 < w1.heap.size := (by omega)); (try have : w.heap.size + 1 < w1.heap.size + 1 := (by omega)); (try have : w.heap.size + 1 < w1.heap.size + 1 + 1 := (by omega)); (try have : w.heap.size + 1 + 1 < w1.heap.size := (by omega)); (try have : w.heap.size + 1 + 1 < w1.heap.size + 1 := (by omega)); (try have : w.heap.size + 1 + 1 < w1.heap.size + 1 + 1 := (by omega))
  go_wp2_with (refine wpList_make_full _ rfl _ _ 22 rfl w.heap.size 3 inf (.int .i64 0) 1 undI hi iz0 iz1 .i64 .i64 _ _ t.vars.length rfl rfl rfl rfl (by rw [iz2]; omega) (by unfold maxLen; omega) (by omega) ?_; intro w3 hown hgrow; have hbw3 : Below w.heap.size w w3 := (show Below w.heap.size w w1 by repeat (first | exact Below.refl _ _ | refine below_dN ?_ _ | refine Below.drew ?_ | refine Below.alloc ?_ (by first | omega | (simp; done) | (simp; omega)) _ | refine Below.setCell ?_ (by first | omega | (simp; done) | (simp; omega)) _ | refine below_step (by assumption) (by first | omega | (simp; done) | (simp; omega)) ?_)).grown hgrow (by omega) (fun k hk => by cases hk); have hbx : Below w1.heap.size w1 w3 := (Below.refl _ _).grown hgrow (Nat.le_refl _) (fun k hk => by cases hk); rw [made_ic] at hown; have Hown := Lib.hid hown; obtain ⟨hc3, hf3, hz3, hlt3, hle3⟩ := cellsIf hbx rfl; clear hgrow hown)
  have hbox1 : Boxed w3 w.heap.size t ⟨av, ai, ag, ao, cv, ci, cg, co⟩ := (Boxed.up (by constructor <;> simp) hb1).up hbx
  have hg0 : w.heap.size + 1 ≤ w1.heap.size := hz1
  obtain ⟨g, hg⟩ : ∃ g, g = w1.heap.size := ⟨_, rfl⟩
  have hown1 := Hown.out
  rw [← hg] at hown1 hg0
  clear Hown
  simp only [← hg]
  clear hg
  go_wp2
  go_loopw [9, 1] (fun v m wr => ∃ (j d : Nat) (z : Int), j + d = t.vars.length ∧ v = .int .i64 z ∧ z = (j : Int) - 1 ∧ m = .int .i64 (nd t.vars n d) ∧ wr.ownsRow w.heap.size 3 1 (.slice (some ⟨g, 0, none⟩) t.vars.length t.vars.length) t.vars.length (ic (od t.vars n d)) ∧ Boxed wr w.heap.size t ⟨av, ai, ag, ao, cv, ci, cg, co⟩ ∧ Below w.heap.size w wr) (fun v _ _ => (intOf v + 1).toNat)
  case atStart => exact ⟨t.vars.length, 0, _, by omega, rfl, rfl, rfl, hown1, hbox1, hbw3⟩
  case round =>
    clear hc1 hc3 hf1 hf3 hlt1 hlt3 hle1 hle3 hb1 hown1 hbox1 hbw3 hbx
    obtain ⟨j, d, z, hj, rfl, hz, rfl, hown, hbox, hbel⟩ := hrel
    obtain ⟨z0, y0, y1, y2, y3⟩ := id hbox
    dsimp only at y0 y1 y2 y3
    have hbz := hbel.size
    rcases Nat.eq_zero_or_pos j with rfl | hp
    · obtain rfl : z = -1 := by omega
      clear hz
      go_wp2
      refine bodyPost_ret (v := .tuple #[.slice (some ⟨g, 0, none⟩) t.vars.length t.vars.length, .nilIface]) (by simp [results, Try.results53, go_sem]) rfl ⟨⟨_, by rw [Hc.out]; rfl, ?_⟩, by repeat (first | exact Below.refl _ _ | refine below_dN ?_ _ | refine Below.drew ?_ | refine Below.alloc ?_ (by first | omega | (simp; done) | (simp; omega)) _ | refine Below.setCell ?_ (by first | omega | (simp; done) | (simp; omega)) _ | refine below_step (by assumption) (by first | omega | (simp; done) | (simp; omega)) ?_)⟩
      unfold unL
      rw [Hc.out, if_pos rfl]
      have hd : d = t.vars.length := by omega
      rw [hd] at hown
      exact own_got (by rw [od_len]; exact hown) (by rw [od_len]; omega)
    · obtain ⟨i, rfl⟩ : ∃ i, j = i + 1 := ⟨j - 1, by omega⟩
      obtain rfl : z = (i : Int) := by omega
      clear hz
      have hlt : i < t.vars.length := by omega
      obtain ⟨b1, o1, ea, hb1, hc1⟩ := ht.vars.at_ hlt
      dsimp only at ea
      subst ea
      have d1 := (hbel.cell (p := ⟨b1, o1 + i, none⟩) hb1).trans (hc1 i hlt)
      clear hc1
      have v0 := (Hv.out i hlt).1
      have v1 := (Hv.out i hlt).2
      have hnd := nd_bd (fun k hk => (Hv.out k hk).1) n0 Hn.out d (by omega)
      have nd0 := hnd.1
      have nd1 : nd t.vars n d ≤ 65536 := by
        have a := pr_full Hv.out (show t.vars.length - d ≤ t.vars.length by omega)
        have b := Hq.out.2.1
        omega
      clear hnd
      have He := Lib.hid (show nd t.vars n (d + 1) = nd t.vars n d / nth t.vars i by
        show nd t.vars n d / nth t.vars (t.vars.length - 1 - d) = _
        rw [show t.vars.length - 1 - d = i by omega])
      have Ho := Lib.hid (show od t.vars n (d + 1) = (od t.vars n d).set i (nd t.vars n d % nth t.vars i) by
        show (od t.vars n d).set (t.vars.length - 1 - d) (nd t.vars n d % nth t.vars (t.vars.length - 1 - d)) = _
        rw [show t.vars.length - 1 - d = i by omega])
      have x1 : wr.cell? ⟨g, i, none⟩ = some (.int .i64 (nth (od t.vars n d) i)) := (hown.cellAt _ (by omega)).trans (ic_get (by rw [od_len]; omega))
      have x2 : wr.frozen? ⟨g, i, none⟩ = false := hown.frozenAt _
      have x3 : b1 ≠ g := by omega
      have x4 : w.heap.size ≠ g := by omega
      go_wp2
      go_roundw
      case rel => exact ⟨i, d + 1, _, by omega, rfl, rfl, by rw [He.out], (by rw [Ho.out, ← ic_set]; exact (hown.stored _ _).1), ⟨by simp; exact z0, by rw [World.cell?_setCell_other _ _ _ _ (by first | (simp; done) | (simp; omega))]; exact y0, by rw [World.cell?_setCell_other _ _ _ _ (by first | (simp; done) | (simp; omega))]; exact y1, by rw [World.cell?_setCell_other _ _ _ _ (by first | (simp; done) | (simp; omega))]; exact y2, by rw [World.cell?_setCell_other _ _ _ _ (by first | (simp; done) | (simp; omega))]; exact y3⟩, by repeat (first | exact Below.refl _ _ | refine below_dN ?_ _ | refine Below.drew ?_ | refine Below.alloc ?_ (by first | omega | (simp; done) | (simp; omega)) _ | refine Below.setCell ?_ (by first | omega | (simp; done) | (simp; omega)) _ | refine below_step (by assumption) (by first | omega | (simp; done) | (simp; omega)) ?_)⟩
      case measure => first | (simp [intOf]; done) | (simp [intOf]; omega)

end Go.Proofs.Ytbbgbogenkcooaa

/- base.Apply where the precondition holds. -/
import Derived.Test.YtenmeiplglbafaaTaskL
namespace Go.Proofs.Ytenmeiplglbafaa
set_option linter.unusedSimpArgs false
set_option linter.unusedVariables false
open Go.RowKit
set_option linter.unusedVariables false

/-- The cells of a list of numbers at an address. -/
theorem ints_src {w : World} {ad : Addr} {s : List Int} (h : IntsAt w w.heap.size (some ad) s) {w1 : World} (hb : Below w.heap.size w w1) : ∀ (j : Nat) (u : Value), (ic s)[j]? = some u → w1.cell? (ad.add j) = some u := fun j u hj => by
  have hlt : j < s.length := by have := (List.getElem?_eq_some_iff.1 hj).1; simpa [ic] using this
  obtain ⟨b, off, e2, hb2, hc⟩ := h.2 (by omega)
  rw [ic_get hlt] at hj
  cases hj
  cases e2
  have := (hb.cell (p := ⟨b, off + j, none⟩) hb2).trans (hc j hlt)
  simp [Addr.add]
  split
  · rename_i h0; subst h0; simpa using this
  · simpa using this

set_option maxRecDepth 4000 in
set_option maxHeartbeats 2000000 in
theorem bapply_some (t : Tsk) (p : Lies) (s : List Int) (ad : Addr) (c : Nat) (k : Nat) (w : World) (ht : TaskAt w w.heap.size t p) (hs : IntsAt w w.heap.size (some ad) s) (hlg : lgT t = false) (hmal : malT t = false) (hst : stB t.vars s = true) (hlt : k < t.ops.length) (e4 : hoB (opr t.ops k).pre s = true) :
    Calls Try.prog 70 #[TaskV t p, .slice (some ad) s.length c, .int .i64 k] w fun e w' => (∃ v, e = .returned (.tuple #[v, .bool true]) ∧ w'.ownsRow w.heap.size 3 1 v s.length (ic (apE s (opr t.ops k).effs (opr t.ops k).effs.length))) ∧ Below w.heap.size w w' := by
  obtain ⟨av, ai, ag, ao, cv, ci, cg, co⟩ := p
  unfold TaskV at *
  dsimp only at *
  have l4 := ht.ops.len
  have ls := hs.len
  have Hmal := Lib.hid hmal
  have Hlv := Lib.hid (lg_vars hlg)
  have Hsl := Lib.hid (stB_len hst)
  clear hlg hmal hst
  have hsm : s.length ≤ 64 := by have := Hsl.out; have := Hlv.out; omega
  obtain ⟨inf, hi, iz0, iz1, iz2⟩ := info_parts infoI
  obtain ⟨b, o, S, d, T, d2, ea, hb, q0, qs, q1, q2, f2, q3, e5⟩ := ht.ops.at2 (Below.refl _ w) hlt
  dsimp only at ea
  subst ea
  have g2 : b < w.heap.size := hb
  have j1 := f2.len
  have j2 := e5.len
  have k2 := fun w1 (hb : Below w.heap.size w w1) => bholds_any (opr t.ops k).pre s S (some ad) d c w1 (f2.up hb) (hs.up hb)
  have Hn := Lib.hid (fun w1 (hb : Below w.heap.size w w1) => ints_src hs hb)
  go_enter Try.func70, Try.ntmps70
  go_wp2_with fail; refine (k2 _ (by repeat (first | exact Below.refl _ _ | refine below_dN ?_ _ | refine Below.drew ?_ | refine Below.alloc ?_ (by first | omega | (simp; done) | (simp; omega)) _ | refine Below.setCell ?_ (by first | omega | (simp; done) | (simp; omega)) _ | refine below_step (by assumption) (by first | omega | (simp; done) | (simp; omega)) ?_))).mono ?_; rintro e w1 ⟨rfl, hb1⟩; obtain ⟨hc1, hf1, hz1, hlt1, hle1⟩ := cellsIf hb1 (by (try simp); exact rfl); (try have : w.heap.size < w1.heap.size := (by omega)); (try have : w.heap.size < w1.heap.size + 1 := (by omega)); (try have : w.heap.size < w1.heap.size + 1 + 1 := (by omega)); (try have : w.heap.size + 1 < w1.heap.size := (by omega)); (try have : w.heap.size + 1 < w1.heap.size + 1 := (by omega)); (try have : w.heap.size + 1 < w1.heap.size + 1 + 1 := (by omega)); (try have : w.heap.size + 1 + 1 < w1.heap.size := (by omega)); (try have : w.heap.size + 1 + 1 < w1.heap.size + 1 := (by omega)); (try have : w.heap.size + 1 + 1 < w1.heap.size + 1 + 1 := (by omega))
  go_wp2_with (at_builtin; refine wpList_append_own _ rfl _ _ 22 rfl w.heap.size 3 inf (.int .i64 0) 1 8 undI hi iz0 iz1 iz2 rfl (by decide) _ 0 [] rfl (World.ownsRow_made w1 #[] 0 (by omega) (by simp [maxLen]) rfl) ad s.length c (ic s) rfl (by simp [ic]) (Hn.out _ (by repeat (first | exact Below.refl _ _ | refine below_dN ?_ _ | refine Below.drew ?_ | refine Below.alloc ?_ (by first | omega | (simp; done) | (simp; omega)) _ | refine Below.setCell ?_ (by first | omega | (simp; done) | (simp; omega)) _ | refine below_step (by assumption) (by first | omega | (simp; done) | (simp; omega)) ?_))) (by intro u hu; simp [ic] at hu; obtain ⟨x, _, rfl⟩ := hu; rfl) (by unfold maxLen; omega) (by omega) (by simp; omega) ?_; intro v' w3 hown' hgrow _; simp only [Nat.zero_add, List.nil_append] at hown'; have hbw3 : Below w.heap.size w w3 := grown_below (by repeat (first | exact Below.refl _ _ | refine below_dN ?_ _ | refine Below.drew ?_ | refine Below.alloc ?_ (by first | omega | (simp; done) | (simp; omega)) _ | refine Below.setCell ?_ (by first | omega | (simp; done) | (simp; omega)) _ | refine below_step (by assumption) (by first | omega | (simp; done) | (simp; omega)) ?_)) (Nat.le_refl _) (World.ownsRow_made w1 #[] 0 (by omega) (by simp [maxLen]) rfl) hgrow; have hbx : Below w1.heap.size w1 w3 := (Below.alloc (Below.refl _ _) (Nat.le_refl _) _).grown hgrow (by simp) (fun k hk => by cases hk; exact Nat.le_refl _); obtain ⟨hc3, hf3, hz3, hlt3, hle3⟩ := cellsIf hbx rfl; have Hown := Lib.hid hown'; clear hgrow hown')
  have hown1 := Hown.out
  go_loopw [41] (fun i wr => ∃ j : Nat, j ≤ (opr t.ops k).effs.length ∧ i = .int .i64 j ∧ wr.ownsRow w.heap.size 3 1 v' s.length (ic (apE s (opr t.ops k).effs j)) ∧ Below w.heap.size w wr) (fun i _ => (opr t.ops k).effs.length - (intOf i).toNat)
  case atStart => exact ⟨0, by omega, rfl, hown1, hbw3⟩
  case round =>
    clear hc1 hf1 hlt1 hle1 hb1 hown1 hbw3 hc3 hf3 hlt3 hle3 hbx
    obtain ⟨j, hj, rfl, hown, hbel2⟩ := hrel
    by_cases hlt2 : j < (opr t.ops k).effs.length
    · obtain ⟨b', o', S', c', ea', hb', i0, f5, i1, i2⟩ := e5.at2 hbel2 hlt2
      subst ea'
      have hbz2 := hbel2.size
      have g3 : b' < wr.heap.size := by omega
      have j3 := f5.len
      have hv := mal_var Hmal.out hlt hlt2
      have hsl := Hsl.out
      have v0 := hv.1
      have v1 : (eff (opr t.ops k).effs j).var < s.length := by omega
      clear hsl hv
      obtain ⟨g, cap, rfl, hg1, hg2⟩ := own_form hown (by omega)
      have k5 := fun w1 (hb : Below w.heap.size w w1) => bholds_any (eff (opr t.ops k).effs j).whn s S' (some ad) c' c w1 (f5.up hb) (hs.up hb)
      cases e6 : hoB (eff (opr t.ops k).effs j).whn s
      · have He := Lib.hid (show apE s (opr t.ops k).effs (j + 1) = apE s (opr t.ops k).effs j by conv => lhs; unfold apE; rw [if_neg (by rw [e6]; simp)])
        go_wp2_with fail; refine (k5 _ (by repeat (first | exact Below.refl _ _ | refine below_dN ?_ _ | refine Below.drew ?_ | refine Below.alloc ?_ (by first | omega | (simp; done) | (simp; omega)) _ | refine Below.setCell ?_ (by first | omega | (simp; done) | (simp; omega)) _ | refine below_step (by assumption) (by first | omega | (simp; done) | (simp; omega)) ?_))).mono ?_; rintro e w4 ⟨rfl, hb4⟩; obtain ⟨hc4, hf4, hz4, hlt4, hle4⟩ := cellsIf hb4 (by (try simp); exact rfl); (try have : w.heap.size < w4.heap.size := (by omega)); (try have : w.heap.size < w4.heap.size + 1 := (by omega)); (try have : w.heap.size < w4.heap.size + 1 + 1 := (by omega)); (try have : w.heap.size + 1 < w4.heap.size := (by omega)); (try have : w.heap.size + 1 < w4.heap.size + 1 := (by omega)); (try have : w.heap.size + 1 < w4.heap.size + 1 + 1 := (by omega)); (try have : w.heap.size + 1 + 1 < w4.heap.size := (by omega)); (try have : w.heap.size + 1 + 1 < w4.heap.size + 1 := (by omega)); (try have : w.heap.size + 1 + 1 < w4.heap.size + 1 + 1 := (by omega)); (try have : w1.heap.size < w4.heap.size := (by omega)); (try have : w1.heap.size < w4.heap.size + 1 := (by omega)); (try have : w1.heap.size < w4.heap.size + 1 + 1 := (by omega)); (try have : w1.heap.size + 1 < w4.heap.size := (by omega)); (try have : w1.heap.size + 1 < w4.heap.size + 1 := (by omega)); (try have : w1.heap.size + 1 < w4.heap.size + 1 + 1 := (by omega)); (try have : w1.heap.size + 1 + 1 < w4.heap.size := (by omega)); (try have : w1.heap.size + 1 + 1 < w4.heap.size + 1 := (by omega)); (try have : w1.heap.size + 1 + 1 < w4.heap.size + 1 + 1 := (by omega)); (try have : w2.heap.size < w4.heap.size := (by omega)); (try have : w2.heap.size < w4.heap.size + 1 := (by omega)); (try have : w2.heap.size < w4.heap.size + 1 + 1 := (by omega)); (try have : w2.heap.size + 1 < w4.heap.size := (by omega)); (try have : w2.heap.size + 1 < w4.heap.size + 1 := (by omega)); (try have : w2.heap.size + 1 < w4.heap.size + 1 + 1 := (by omega)); (try have : w2.heap.size + 1 + 1 < w4.heap.size := (by omega)); (try have : w2.heap.size + 1 + 1 < w4.heap.size + 1 := (by omega)); (try have : w2.heap.size + 1 + 1 < w4.heap.size + 1 + 1 := (by omega)); (try have : w3.heap.size < w4.heap.size := (by omega)); (try have : w3.heap.size < w4.heap.size + 1 := (by omega)); (try have : w3.heap.size < w4.heap.size + 1 + 1 := (by omega)); (try have : w3.heap.size + 1 < w4.heap.size := (by omega)); (try have : w3.heap.size + 1 < w4.heap.size + 1 := (by omega)); (try have : w3.heap.size + 1 < w4.heap.size + 1 + 1 := (by omega)); (try have : w3.heap.size + 1 + 1 < w4.heap.size := (by omega)); (try have : w3.heap.size + 1 + 1 < w4.heap.size + 1 := (by omega)); (try have : w3.heap.size + 1 + 1 < w4.heap.size + 1 + 1 := (by omega))
        go_wp2
        go_roundw
        case rel => exact ⟨j + 1, by omega, by go_num, (by rw [He.out]; exact own_keep (own_keep hown (Below.alloc (Below.refl _ _) (Nat.le_refl _) _)) hb4), by repeat (first | exact Below.refl _ _ | refine below_dN ?_ _ | refine Below.drew ?_ | refine Below.alloc ?_ (by first | omega | (simp; done) | (simp; omega)) _ | refine Below.setCell ?_ (by first | omega | (simp; done) | (simp; omega)) _ | refine below_step (by assumption) (by first | omega | (simp; done) | (simp; omega)) ?_)⟩
        case measure => simp [intOf]; omega
      · have He := Lib.hid (show apE s (opr t.ops k).effs (j + 1) = (apE s (opr t.ops k).effs j).set (eff (opr t.ops k).effs j).var.toNat (eff (opr t.ops k).effs j).val by conv => lhs; unfold apE; rw [if_pos e6])
        go_wp2_with fail; refine (k5 _ (by repeat (first | exact Below.refl _ _ | refine below_dN ?_ _ | refine Below.drew ?_ | refine Below.alloc ?_ (by first | omega | (simp; done) | (simp; omega)) _ | refine Below.setCell ?_ (by first | omega | (simp; done) | (simp; omega)) _ | refine below_step (by assumption) (by first | omega | (simp; done) | (simp; omega)) ?_))).mono ?_; rintro e w4 ⟨rfl, hb4⟩; obtain ⟨hc4, hf4, hz4, hlt4, hle4⟩ := cellsIf hb4 (by (try simp); exact rfl); (try have : w.heap.size < w4.heap.size := (by omega)); (try have : w.heap.size < w4.heap.size + 1 := (by omega)); (try have : w.heap.size < w4.heap.size + 1 + 1 := (by omega)); (try have : w.heap.size + 1 < w4.heap.size := (by omega)); (try have : w.heap.size + 1 < w4.heap.size + 1 := (by omega)); (try have : w.heap.size + 1 < w4.heap.size + 1 + 1 := (by omega)); (try have : w.heap.size + 1 + 1 < w4.heap.size := (by omega)); (try have : w.heap.size + 1 + 1 < w4.heap.size + 1 := (by omega)); (try have : w.heap.size + 1 + 1 < w4.heap.size + 1 + 1 := (by omega)); (try have : w1.heap.size < w4.heap.size := (by omega)); (try have : w1.heap.size < w4.heap.size + 1 := (by omega)); (try have : w1.heap.size < w4.heap.size + 1 + 1 := (by omega)); (try have : w1.heap.size + 1 < w4.heap.size := (by omega)); (try have : w1.heap.size + 1 < w4.heap.size + 1 := (by omega)); (try have : w1.heap.size + 1 < w4.heap.size + 1 + 1 := (by omega)); (try have : w1.heap.size + 1 + 1 < w4.heap.size := (by omega)); (try have : w1.heap.size + 1 + 1 < w4.heap.size + 1 := (by omega)); (try have : w1.heap.size + 1 + 1 < w4.heap.size + 1 + 1 := (by omega)); (try have : w2.heap.size < w4.heap.size := (by omega)); (try have : w2.heap.size < w4.heap.size + 1 := (by omega)); (try have : w2.heap.size < w4.heap.size + 1 + 1 := (by omega)); (try have : w2.heap.size + 1 < w4.heap.size := (by omega)); (try have : w2.heap.size + 1 < w4.heap.size + 1 := (by omega)); (try have : w2.heap.size + 1 < w4.heap.size + 1 + 1 := (by omega)); (try have : w2.heap.size + 1 + 1 < w4.heap.size := (by omega)); (try have : w2.heap.size + 1 + 1 < w4.heap.size + 1 := (by omega)); (try have : w2.heap.size + 1 + 1 < w4.heap.size + 1 + 1 := (by omega)); (try have : w3.heap.size < w4.heap.size := (by omega)); (try have : w3.heap.size < w4.heap.size + 1 := (by omega)); (try have : w3.heap.size < w4.heap.size + 1 + 1 := (by omega)); (try have : w3.heap.size + 1 < w4.heap.size := (by omega)); (try have : w3.heap.size + 1 < w4.heap.size + 1 := (by omega)); (try have : w3.heap.size + 1 < w4.heap.size + 1 + 1 := (by omega)); (try have : w3.heap.size + 1 + 1 < w4.heap.size := (by omega)); (try have : w3.heap.size + 1 + 1 < w4.heap.size + 1 := (by omega)); (try have : w3.heap.size + 1 + 1 < w4.heap.size + 1 + 1 := (by omega))
        have hown4 := own_keep (own_keep hown (Below.alloc (Below.refl _ _) (Nat.le_refl _) _)) hb4
        have x1 : wr.cell? ⟨g, (eff (opr t.ops k).effs j).var.toNat, none⟩ = some (.int .i64 (nth (apE s (opr t.ops k).effs j) (eff (opr t.ops k).effs j).var.toNat)) := (hown.cellAt _ (by omega)).trans (ic_get (by rw [apE_len]; omega))
        have x2 : wr.frozen? ⟨g, (eff (opr t.ops k).effs j).var.toNat, none⟩ = false := hown.frozenAt _
        go_wp2
        go_roundw
        case rel => exact ⟨j + 1, by omega, by go_num, (by rw [He.out, ← ic_set]; exact (hown4.stored _ _).1), by repeat (first | exact Below.refl _ _ | refine below_dN ?_ _ | refine Below.drew ?_ | refine Below.alloc ?_ (by first | omega | (simp; done) | (simp; omega)) _ | refine Below.setCell ?_ (by first | omega | (simp; done) | (simp; omega)) _ | refine below_step (by assumption) (by first | omega | (simp; done) | (simp; omega)) ?_)⟩
        case measure => simp [intOf]; omega
    · obtain rfl : j = (opr t.ops k).effs.length := by omega
      go_wp2
      refine bodyPost_ret (v := .tuple #[v', .bool true]) (by simp [results, Try.results70, go_sem]) rfl ⟨⟨_, rfl, hown⟩, by repeat (first | exact Below.refl _ _ | refine below_dN ?_ _ | refine Below.drew ?_ | refine Below.alloc ?_ (by first | omega | (simp; done) | (simp; omega)) _ | refine Below.setCell ?_ (by first | omega | (simp; done) | (simp; omega)) _ | refine below_step (by assumption) (by first | omega | (simp; done) | (simp; omega)) ?_)⟩

end Go.Proofs.Ytenmeiplglbafaa

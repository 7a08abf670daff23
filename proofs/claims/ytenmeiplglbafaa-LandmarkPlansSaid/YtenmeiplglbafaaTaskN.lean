/- base.Apply where the state is nil; base.Apply whole. -/
import Derived.Test.YtenmeiplglbafaaTaskM
namespace Go.Proofs.Ytenmeiplglbafaa
set_option linter.unusedSimpArgs false
set_option linter.unusedVariables false
open Go.RowKit
set_option linter.unusedVariables false

/-- A slice that holds the numbers l. -/
def GotInts (w : World) (v : Value) (l : List Int) : Prop := ∃ A c, v = .slice A l.length c ∧ (A = none → c = 0) ∧ IntsAt w w.heap.size A l
theorem GotInts.up {w w' : World} {v : Value} {l : List Int} (h : GotInts w v l) (hb : Below w.heap.size w w') : GotInts w' v l := by
  obtain ⟨A, c, rfl, h0, h1⟩ := h
  exact ⟨A, c, rfl, h0, h1.up hb⟩
theorem got_nil (w : World) : GotInts w (.slice none 0 0) [] := ⟨none, 0, rfl, fun _ => rfl, by simp, fun h => absurd h (by simp)⟩
theorem own_got {w : World} {B : Nat} {v : Value} {l : List Int} (h : w.ownsRow B 3 1 v l.length (ic l)) (hl : l.length ≤ 140737488355328) : GotInts w v l := by
  rcases h.2 with ⟨rfl, h0⟩ | ⟨b, cap, cur, rfl, hb, hg, hh⟩
  · have h1 : l = [] := List.length_eq_zero_iff.1 h0
    subst h1
    exact got_nil w
  · refine ⟨_, cap, rfl, fun h => (by cases h), hl, fun _ => ⟨b, 0, rfl, (Array.getElem?_eq_some_iff.1 hg).1, fun k hk => ?_⟩⟩
    have := h.cells (g := b) rfl k _ (ic_get hk)
    simp [Addr.add] at this
    split at this
    · rename_i h0; subst h0; exact this
    · simpa using this

set_option maxRecDepth 4000 in
set_option maxHeartbeats 2000000 in
theorem bapply_none (t : Tsk) (p : Lies) (k : Nat) (w : World) (ht : TaskAt w w.heap.size t p) (hmal : malT t = false) (hst : stB t.vars [] = true) (hlt : k < t.ops.length) (e4 : hoB (opr t.ops k).pre [] = true) :
    Calls Try.prog 70 #[TaskV t p, .slice none 0 0, .int .i64 k] w fun e w' => (∃ v, e = .returned (.tuple #[v, .bool true]) ∧ w'.ownsRow w.heap.size 3 1 v 0 []) ∧ Below w.heap.size w w' := by
  have he : (opr t.ops k).effs.length = 0 := by
    rcases Nat.eq_zero_or_pos (opr t.ops k).effs.length with h | h
    · exact h
    · have h1 := mal_var hmal hlt h
      have h2 := stB_len hst
      simp at h2
      omega
  have Hn := Lib.hid (show IntsAt w w.heap.size none [] from ⟨by simp, fun h => absurd h (by simp)⟩)
  obtain ⟨av, ai, ag, ao, cv, ci, cg, co⟩ := p
  unfold TaskV at *
  dsimp only at *
  have l4 := ht.ops.len
  clear hst hmal
  obtain ⟨inf, hi, iz0, iz1, iz2⟩ := info_parts infoI
  obtain ⟨b, o, S, d, T, d2, ea, hb, q0, qs, q1, q2, f2, q3, e5⟩ := ht.ops.at2 (Below.refl _ w) hlt
  dsimp only at ea
  subst ea
  rw [he] at q3
  clear he
  have g2 : b < w.heap.size := hb
  have j1 := f2.len
  have k2 := fun w1 (hb : Below w.heap.size w w1) => bholds_any (opr t.ops k).pre [] S none d 0 w1 (f2.up hb) (Hn.out.up hb)
  simp only [List.length_nil] at k2
  go_enter Try.func70, Try.ntmps70
  go_wp2_with fail; refine (k2 _ (by repeat (first | exact Below.refl _ _ | refine below_dN ?_ _ | refine Below.drew ?_ | refine Below.alloc ?_ (by first | omega | (simp; done) | (simp; omega)) _ | refine Below.setCell ?_ (by first | omega | (simp; done) | (simp; omega)) _ | refine below_step (by assumption) (by first | omega | (simp; done) | (simp; omega)) ?_))).mono ?_; rintro e w1 ⟨rfl, hb1⟩; obtain ⟨hc1, hf1, hz1, hlt1, hle1⟩ := cellsIf hb1 (by (try simp); exact rfl); (try have : w.heap.size < w1.heap.size := (by omega)); (try have : w.heap.size < w1.heap.size + 1 := (by omega)); (try have : w.heap.size < w1.heap.size + 1 + 1 := (by omega)); (try have : w.heap.size + 1 < w1.heap.size := (by omega)); (try have : w.heap.size + 1 < w1.heap.size + 1 := (by omega)); (try have : w.heap.size + 1 < w1.heap.size + 1 + 1 := (by omega)); (try have : w.heap.size + 1 + 1 < w1.heap.size := (by omega)); (try have : w.heap.size + 1 + 1 < w1.heap.size + 1 := (by omega)); (try have : w.heap.size + 1 + 1 < w1.heap.size + 1 + 1 := (by omega))
  go_wp2_with (at_builtin; refine wpList_append_own_none rfl _ _ 22 rfl w.heap.size 3 inf 1 undI hi _ 0 [] rfl (World.ownsRow_made w1 #[] 0 (by omega) (by simp [maxLen]) rfl) rfl ?_; obtain ⟨w3, hw3⟩ : ∃ w3, w3 = w1.alloc (Obj.cells #[] 3) := ⟨_, rfl⟩; rw [← hw3]; have hbx : Below w1.heap.size w1 w3 := (by rw [hw3]; exact Below.alloc (Below.refl _ _) (Nat.le_refl _) _); have hown : w3.ownsRow w.heap.size 3 1 (.slice (some ⟨w1.heap.size, 0, none⟩) 0 0) 0 [] := (by rw [hw3]; exact World.ownsRow_made w1 #[] 0 (by omega) (by simp [maxLen]) rfl); have hbw3 : Below w.heap.size w w3 := hbx.mono (by omega) |> (show Below w.heap.size w w1 by repeat (first | exact Below.refl _ _ | refine below_dN ?_ _ | refine Below.drew ?_ | refine Below.alloc ?_ (by first | omega | (simp; done) | (simp; omega)) _ | refine Below.setCell ?_ (by first | omega | (simp; done) | (simp; omega)) _ | refine below_step (by assumption) (by first | omega | (simp; done) | (simp; omega)) ?_)).trans; obtain ⟨hc3, hf3, hz3, hlt3, hle3⟩ := cellsIf hbx rfl; clear hw3 hbx; have Hown := Lib.hid hown; clear hown)
  refine wp_loop_rounds 1 ?_
  rw [rounds_succ]
  go_wp2
  refine bodyPost_ret (v := .tuple #[_, .bool true]) (by simp [results, Try.results70, go_sem]) rfl ⟨⟨_, rfl, Hown.out⟩, by repeat (first | exact Below.refl _ _ | refine below_dN ?_ _ | refine Below.drew ?_ | refine Below.alloc ?_ (by first | omega | (simp; done) | (simp; omega)) _ | refine Below.setCell ?_ (by first | omega | (simp; done) | (simp; omega)) _ | refine below_step (by assumption) (by first | omega | (simp; done) | (simp; omega)) ?_)⟩

/-- The successor, or nothing. -/
def nxt (t : Tsk) (s : List Int) (k : Nat) : List Int := apE s (opr t.ops k).effs (opr t.ops k).effs.length
theorem nxt_len (t : Tsk) (s : List Int) (k : Nat) : (nxt t s k).length = s.length := apE_len _ _ _

theorem bapply_any (t : Tsk) (p : Lies) (s : List Int) (A : Option Addr) (c : Nat) (k : Nat) (w : World) (ht : TaskAt w w.heap.size t p) (hs : IntsAt w w.heap.size A s) (hc : A = none → c = 0) (hlg : lgT t = false) (hmal : malT t = false) (hst : stB t.vars s = true) (hlt : k < t.ops.length) :
    Calls Try.prog 70 #[TaskV t p, .slice A s.length c, .int .i64 k] w fun e w' => (∃ v, e = .returned (.tuple #[v, .bool (hoB (opr t.ops k).pre s)]) ∧ GotInts w' v (if hoB (opr t.ops k).pre s then nxt t s k else [])) ∧ Below w.heap.size w w' := by
  cases e4 : hoB (opr t.ops k).pre s
  · exact (bapply_no t p s A c k w ht hs hlt e4).mono fun e w' ⟨he, hb⟩ => ⟨⟨_, he, got_nil w'⟩, hb⟩
  · cases A with
    | none =>
      have h0 : s = [] := by
        rcases Nat.eq_zero_or_pos s.length with h | h
        · exact List.length_eq_zero_iff.1 h
        · obtain ⟨b, off, e2, _⟩ := hs.2 h; cases e2
      subst h0
      obtain rfl := hc rfl
      refine (bapply_none t p k w ht hmal hst hlt e4).mono fun e w' ⟨⟨v, he, ho⟩, hb⟩ => ⟨⟨v, he, ?_⟩, hb⟩
      have hn : nxt t [] k = [] := List.length_eq_zero_iff.1 (nxt_len t [] k)
      simp only [hn, ite_true]
      exact own_got (l := []) ho (by simp)
    | some ad =>
      refine (bapply_some t p s ad c k w ht hs hlg hmal hst hlt e4).mono fun e w' ⟨⟨v, he, ho⟩, hb⟩ => ⟨⟨v, he, ?_⟩, hb⟩
      simp only [ite_true]
      exact own_got (by rw [nxt_len]; exact ho) (by rw [nxt_len]; exact hs.len)

end Go.Proofs.Ytenmeiplglbafaa

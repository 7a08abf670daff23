/- sexpr: valid at a leaf and at a list of leaves, walked. -/
import Derived.Test.YtebgaicapjpohaaDoorSfB
namespace Go.Proofs.YtebgaicapjpohaaDoor
set_option linter.unusedSimpArgs false
set_option linter.unusedVariables false
open Go Go.RowKit
set_option linter.unusedVariables false

/-- A word or a number that can be written. -/
def LeafOk : Sx → Prop
  | .mk k v l c t kids => kids = [] ∧ ((k = 1 ∧ v = 0 ∧ lowerP t = some t ∧ numB t = false ∧ t.length ≤ 32) ∨ (k = 2 ∧ t = [] ∧ -1099511627776 ≤ v ∧ v ≤ 1099511627776))
/-- What is behind valid: true; the counter is one or more on. -/
def VldRet (Nb n : Nat) (w : World) (e : Ending) (w' : World) : Prop := e = .returned (.bool true) ∧ BxI w' Nb 3 #[.int .i64 n] ∧ Kb (fun g => g = Nb) w w'

theorem box_after (w : World) (p : Addr) (u : Value) (T : TypeId) (cs : Array Value) : BxI ((w.setCell p u).alloc (.cells cs T)) w.heap.size T cs := by
  have := BxI.new (w.setCell p u) T cs
  rw [show (w.setCell p u).heap.size = w.heap.size by simp [World.setCell]] at this
  exact this

set_option maxHeartbeats 4000000 in
theorem valid_leaf (k v l c d : Int) (t : List UInt8) (A : Option Addr) (cap Nb n : Nat) (w : World) (hx : LeafOk (.mk k v l c t [])) (hb : BxI w Nb 3 #[.int .i64 n]) (hn : n < 4096) :
    Calls Tryd.prog 23 #[.agg #[.int .i64 k, .int .i64 v, .int .i64 l, .int .i64 c, .string (bs t), .slice A 0 cap], .int .i64 d, .pointer (some ⟨Nb, 0, none⟩)] w (VldRet Nb (n + 1) w) := by
  have c0 := hb.cell 0 _ rfl
  have f0 := hb.fz 0
  have hlt := hb.lt
  have HB := Lib.hid hb
  have hn5 : decide ((4096 : Int) < (n : Int) + 1) = false := by simp; omega
  rcases hx with ⟨_, ⟨rfl, rfl, hl, hN, htl⟩ | ⟨rfl, rfl, h1, h2⟩⟩
  · have KL := Lib.hid (fun W => lower_any t W (by omega))
    have KN := Lib.hid (fun W => numeric_any t W (by omega))
    rw [hl] at KL
    rw [hN] at KN
    clear hb hl hN
    go_enter Tryd.func23, Tryd.ntmps23
    go_wp2_with fail
    obtain ⟨wa, hwa⟩ : ∃ wa : World, (w.setCell ⟨Nb, 0, none⟩ (.int .i64 ((n : Int) + 1))).alloc (Obj.cells #[.int .i64 1, .int .i64 0, .int .i64 l, .int .i64 c, .string (bs t), .slice A 0 cap] 34) = wa := ⟨_, rfl⟩
    have HKA := Lib.hid (show Kb (fun g => g = Nb) w wa by
      rw [← hwa]; exact ((Kb.refl (fun g => g = Nb) w).set (p := ⟨Nb, 0, none⟩) (.inl rfl) _).alloc _)
    have HXA := Lib.hid (show BxI wa w.heap.size 34 #[.int .i64 1, .int .i64 0, .int .i64 l, .int .i64 c, .string (bs t), .slice A 0 cap] by
      rw [← hwa]; exact box_after w _ _ _ _)
    have HNA := Lib.hid (show BxI wa Nb 3 #[.int .i64 ((n + 1 : Nat) : Int)] by
      rw [← hwa]; exact (HB.out.set 0 _).up (by repeat (first | exact Below.refl _ _ | refine below_dN ?_ _ | refine Below.drew ?_ | refine Below.alloc ?_ (by first | omega | (simp; done) | (simp; omega)) _ | refine Below.setCell ?_ (by first | omega | (simp; done) | (simp; omega)) _ | refine below_step (by assumption) (by first | omega | (simp; done) | (simp; omega)) ?_)))
    rw [hwa]
    clear hwa
    refine (KL.out wa).mono ?_
    rintro e w2 ⟨rfl, hb2⟩
    have HB2 := Lib.hid hb2
    have d1 := (HXA.out.up hb2).cell 1 _ rfl
    have d4 := (HXA.out.up hb2).cell 4 _ rfl
    have d5 := (HXA.out.up hb2).cell 5 _ rfl
    clear hb2 c0 f0
    unfold lowV
    go_wp2_with fail
    refine (KN.out w2).mono ?_
    rintro e w3 ⟨rfl, e3⟩
    subst w3
    go_wp2
    refine bodyPost_ret (v := .bool true) (by simp [results, Tryd.results23, go_sem, ↓IntWalk.iteOmega, *]) rfl ⟨rfl, HNA.out.up HB2.out, HKA.out.trans (Kb.of_below HB2.out)⟩
  · have e0 : bs [] = ⟨#[]⟩ := rfl
    rw [e0]
    have g1 : decide ((-1099511627776 : Int) ≤ v) = true := by simp; omega
    have g2 : decide (v ≤ (1099511627776 : Int)) = true := by simp; omega
    clear hb e0
    go_enter Tryd.func23, Tryd.ntmps23
    go_wp2
    refine bodyPost_ret (v := .bool true) (by simp [results, Tryd.results23, go_sem, ↓IntWalk.iteOmega, *]) rfl ⟨rfl, ?_, ?_⟩
    · exact (HB.out.set 0 (.int .i64 ((n : Int) + 1))).up ((Below.refl _ _).alloc (Nat.le_refl _) _)
    · exact ((Kb.refl (fun g => g = Nb) w).set (p := ⟨Nb, 0, none⟩) (.inl rfl) _).alloc _

theorem leaf_eta {x : Sx} (h : LeafOk x) : ∃ k v l c t, x = .mk k v l c t [] := by
  obtain ⟨k, v, l, c, t, kids⟩ := x
  obtain ⟨rfl, _⟩ := h
  exact ⟨k, v, l, c, t, rfl⟩
set_option maxRecDepth 20000 in
set_option maxHeartbeats 4000000 in
theorem valid_list (l c : Int) (kids : List Sx) (A : Option Addr) (cap Nb n : Nat) (w : World) (hx : ∀ j, j < kids.length → LeafOk (sx kids j)) (hr : RowAt w (fun g => g = Nb) A 0 kids) (hb : BxI w Nb 3 #[.int .i64 n]) (hn : n + kids.length < 4096) :
    Calls Tryd.prog 23 #[.agg #[.int .i64 3, .int .i64 0, .int .i64 l, .int .i64 c, .string (bs []), .slice A kids.length cap], .int .i64 0, .pointer (some ⟨Nb, 0, none⟩)] w (VldRet Nb (n + 1 + kids.length) w) := by
  have c0 := hb.cell 0 _ rfl
  have f0 := hb.fz 0
  have hlt := hb.lt
  have HB := Lib.hid hb
  have HR := Lib.hid hr
  have hn5 : decide ((4096 : Int) < (n : Int) + 1) = false := by simp; omega
  have KV := Lib.hid (fun k v l c d t A cap n W hx hb hn => valid_leaf k v l c d t A cap Nb n W hx hb hn)
  have e0 : bs [] = ⟨#[]⟩ := rfl
  rw [e0]
  clear hb hr e0
  go_enter Tryd.func23, Tryd.ntmps23
  go_wp2_with fail
  obtain ⟨wa, hwa⟩ : ∃ wa : World, (w.setCell ⟨Nb, 0, none⟩ (.int .i64 ((n : Int) + 1))).alloc (Obj.cells #[.int .i64 3, .int .i64 0, .int .i64 l, .int .i64 c, .string ⟨#[]⟩, .slice A kids.length cap] 34) = wa := ⟨_, rfl⟩
  have HKA := Lib.hid (show Kb (fun g => g = Nb) w wa by
    rw [← hwa]; exact ((Kb.refl (fun g => g = Nb) w).set (p := ⟨Nb, 0, none⟩) (.inl rfl) _).alloc _)
  have HNA := Lib.hid (show BxI wa Nb 3 #[.int .i64 ((n + 1 : Nat) : Int)] by
    rw [← hwa]; exact (HB.out.set 0 (.int .i64 ((n : Int) + 1))).up ((Below.refl _ _).alloc (Nat.le_refl _) _))
  rw [hwa]
  clear hwa c0 f0
  go_loopw [91] (fun v wr => ∃ j : Nat, j ≤ kids.length ∧ v = .int .i64 j ∧ Hid (BxI wr Nb 3 #[.int .i64 ((n + 1 + j : Nat) : Int)]) ∧ Hid (Kb (fun g => g = Nb) w wr)) (fun v _ => kids.length - (intOf v).toNat)
  case atStart => exact ⟨0, Nat.zero_le _, rfl, HNA, HKA⟩
  case round =>
    clear HNA HKA
    obtain ⟨j, hj, rfl, HBJ, HKJ⟩ := hrel
    by_cases hlt : j < kids.length
    · have hd1 : decide ((j : Int) < (kids.length : Int)) = true := by simp; omega
      obtain ⟨b, off, vs, rfl, h2, h3, h4, h5⟩ := RowAt.get _ _ _ _ (RowAt.move HKJ.out.moves _ _ _ HR.out) hlt
      have hlf := hx j hlt
      have HLF := Lib.hid hlf
      obtain ⟨kk, vv, ll, cc, tt, hxe⟩ := leaf_eta hlf
      rw [hxe] at h4 hlf
      unfold SxIs at h4
      obtain ⟨A2, cap2, hvs, _, _, _⟩ := h4
      subst hvs
      have d0 : wr.cell? ⟨b, off + j * 6, none⟩ = some (.int .i64 kk) := by have := h5 0 (by decide); simpa using this
      have d1 : wr.cell? ⟨b, off + j * 6 + 1, none⟩ = some (.int .i64 vv) := by have := h5 1 (by decide); simpa using this
      have d2 : wr.cell? ⟨b, off + j * 6 + 2, none⟩ = some (.int .i64 ll) := by have := h5 2 (by decide); simpa using this
      have d3 : wr.cell? ⟨b, off + j * 6 + 3, none⟩ = some (.int .i64 cc) := by have := h5 3 (by decide); simpa using this
      have d4 : wr.cell? ⟨b, off + j * 6 + 4, none⟩ = some (.string (bs tt)) := by have := h5 4 (by decide); simpa using this
      have d5 : wr.cell? ⟨b, off + j * 6 + 5, none⟩ = some (.slice A2 0 cap2) := by have := h5 5 (by decide); simpa using this
      have HL2 := Lib.hid hlf
      clear h5 hlf hxe HLF
      go_wp2_with (refine wpList_store6 (by rfl) 34 _ _ (by rfl) wr.heap.size 0 (.int .i64 kk) (.int .i64 vv) (.int .i64 ll) (.int .i64 cc) (.string (bs tt)) (.slice A2 0 cap2) (by rfl) (by rfl) (there_blk (heap_alloc_new _ _) (Nat.le_refl 6)) qsizeSx (six_one rfl rfl rfl rfl rfl rfl) ?_; intro wx HWX; have HBX := Lib.hid (show Below wr.heap.size wr wx by rw [HWX.out]; refine below_set6 ?_ (Nat.le_refl _); repeat (first | exact Below.refl _ _ | refine below_dN ?_ _ | refine Below.drew ?_ | refine Below.alloc ?_ (by first | omega | (simp; done) | (simp; omega)) _ | refine Below.setCell ?_ (by first | omega | (simp; done) | (simp; omega)) _ | refine below_step (by assumption) (by first | omega | (simp; done) | (simp; omega)) ?_)); have HX := Lib.hid (show BxI wx wr.heap.size 34 #[.int .i64 kk, .int .i64 vv, .int .i64 ll, .int .i64 cc, .string (bs tt), .slice A2 0 cap2] by rw [HWX.out]; exact BxI.set6 (BxI.new _ _ _)); have e0 := HX.out.cell 0 _ rfl; have e1 := HX.out.cell 1 _ rfl; have e2 := HX.out.cell 2 _ rfl; have e3 := HX.out.cell 3 _ rfl; have e4 := HX.out.cell 4 _ rfl; have e5 := HX.out.cell 5 _ rfl)
      refine (KV.out kk vv ll cc 1 tt A2 cap2 (n + 1 + j) wx HL2.out (HBJ.out.up HBX.out) (by omega)).mono ?_
      rintro e w3 ⟨rfl, hx3, hk3⟩
      have HX3 := Lib.hid hx3
      have HK3 := Lib.hid hk3
      clear hx3 hk3 e0 e1 e2 e3 e4 e5 d0 d1 d2 d3 d4 d5
      go_wp2
      go_roundw
      case rel => exact ⟨j + 1, by omega, rfl, HX3, Lib.hid ((HKJ.out.up HBX.out).trans HK3.out)⟩
      case measure => simp [intOf]; omega
    · obtain rfl : j = kids.length := by omega
      go_wp2
      refine bodyPost_ret (v := .bool true) (by simp [results, Tryd.results23, go_sem, ↓IntWalk.iteOmega, *]) rfl ⟨rfl, HBJ.out, HKJ.out⟩
end Go.Proofs.YtebgaicapjpohaaDoor

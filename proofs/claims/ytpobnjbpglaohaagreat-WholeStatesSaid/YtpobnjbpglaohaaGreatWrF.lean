/- succgen: find, Applicable, Count, walked. -/
import Derived.Test.YtpobnjbpglaohaaGreatWrE
import Derived.Test.YtpobnjbpglaohaaGreatTaskA
namespace Go.Proofs.YtpobnjbpglaohaaGreat
set_option linter.unusedSimpArgs false
set_option linter.unusedVariables false
open Go Go.RowKit
set_option linter.unusedVariables false

def appL (t : Tsk) (s : List Int) : List Int := nI (ops1 t s)
theorem appL_len (t : Tsk) (s : List Int) : (appL t s).length = (ops1 t s).length := nI_len _
theorem appL_sort {t : Tsk} {s l : List Int} (h : l.Perm (appL t s)) : (l.mergeSort fun x y => decide (x ≤ y)) = appL t s := by
  refine List.Perm.eq_of_pairwise (le := fun a b : Int => a ≤ b) (fun a b _ _ h1 h2 => Int.le_antisymm h1 h2) ?_ ?_ ((List.mergeSort_perm _ _).trans h)
  · have := List.pairwise_mergeSort (le := fun x y : Int => decide (x ≤ y)) (fun a b c h1 h2 => by simp at *; omega) (fun a b => by simp; omega) l
    exact this.imp (fun h => by simpa using h)
  · unfold appL nI ops1
    rw [List.pairwise_map]
    exact (List.Pairwise.filter _ (List.pairwise_lt_range)).imp (fun h => by omega)
theorem make_bool (N : Nat) (hN : N ≤ 100000) (w : World) : (Instr.makeSlice 74 (.int .i64 (N : Int)) (.int .i64 (N : Int))).run Tryz.prog w = .ok (.slice (some ⟨w.heap.size, 0, none⟩) N N) (w.alloc (.cells (blC (List.replicate N false)).toArray 4)) := by
  obtain ⟨i, hi, hz, hs, hb⟩ := info_parts (show (Tryz.prog.info? 4).map (fun i => (i.zero, i.size, i.bytes)) = some (some (.bool false), 1, 1) by kernel_rfl)
  have h := run_make (P := Tryz.prog) w 74 4 i _ (show Tryz.prog.underlying 74 = some (.slice 4) by kernel_rfl) hi hz .i64 .i64 (N : Int) (N : Int) (by omega) (Int.le_refl _) (by rw [hb]; omega) (by omega)
  rw [Int.toNat_natCast, hs, Nat.mul_one] at h
  rw [show (blC (List.replicate N false)).toArray = madeCells #[.bool false] N from ?_]
  · exact h
  · apply Array.ext'
    unfold blC madeCells
    apply List.ext_getElem
    · simp
    · intro i h1 h2
      simp [Nat.mod_one]
theorem own_box {w : World} {B X n : Nat} {e : TypeId} {xs : List Value} (h : BxI w X e xs.toArray) (hB : B ≤ X) (hn : xs.length = n) (hm : n ≤ maxLen) : w.ownsRow B e 1 (.slice (some ⟨X, 0, none⟩) n n) n xs :=
  ⟨by omega, .inr ⟨X, n, xs.toArray, rfl, hB, h, Nat.le_refl _, hm, by simp [hn], by simp [← hn]⟩⟩
/-- What find returns. -/
def FndR (B : Nat) (l : List Int) (e : Ending) (w' : World) : Prop := ∃ A c m, e = .returned (.tuple #[.slice A l.length c, .int .i64 m]) ∧ w'.ownsRow B 3 1 (.slice A l.length c) l.length (ic l)
def AplR (B : Nat) (l : List Int) (e : Ending) (w' : World) : Prop := ∃ A c, e = .returned (.slice A l.length c) ∧ w'.ownsRow B 3 1 (.slice A l.length c) l.length (ic l)

set_option maxRecDepth 20000 in
set_option maxHeartbeats 8000000 in
theorem gfind_any (t : Tsk) (G : Nat) (s : List Int) (SA : Option Addr) (Sc : Nat) (w : World) (hg : GenAt w G t) (hr : Right t) (hs : IntsAt w w.heap.size SA s) (hst : StP t.vars s) :
    Calls Tryz.prog 61 #[.pointer (some ⟨G, 0, none⟩), .slice SA s.length Sc] w fun e w' => FndR w.heap.size (appL t s) e w' ∧ Below w.heap.size w w' := by
  obtain ⟨p, np, C, hgn, htr, hpm⟩ := hg
  have hl := hst.1
  have hnv := hr.nv
  have hclen : (C s).length ≤ 4096 := by rw [(hpm s hst).length_eq, nI_len]; have := ops1_len t s; have := hr.no; omega
  have KP := Lib.hid (fun W (k : Below w.heap.size w W) => (show stB t.vars s = true from decide_eq_true hst) ▸ proper_any t.vars s p.av SA p.cv Sc W (hgn.task.vars.up k) (hs.up k))
  have HSO := Lib.hid (appL_sort (hpm s hst))
  have hxl := hgn.box.lt
  have x0 := hgn.box.cell 0 _ rfl
  have HGN := Lib.hid hgn
  have HSI := Lib.hid hs
  have HST := Lib.hid hst
  have HTR := Lib.hid (htr.move (w' := w) (bad' := fun b => w.heap.size ≤ b) (Moves.mono (fun b h1 h2 => by omega)))
  have hmk := make_bool t.vars.length (by omega)
  rw [hl] at KP
  rw [hl]
  have HMK := Lib.hid hmk
  clear hgn htr hpm hr hs hst hl hmk
  go_enter Tryz.func61, Tryz.ntmps61
  go_wp2_with fail
  refine (KP.out _ (by repeat (first | exact Below.refl _ _ | refine below_dN ?_ _ | refine Below.drew ?_ | refine Below.alloc ?_ (by first | omega | (simp; done) | (simp; omega)) _ | refine Below.setCell ?_ (by first | omega | (simp; done) | (simp; omega)) _ | refine below_step (by assumption) (by first | omega | (simp; done) | (simp; omega)) ?_))).mono ?_
  rintro e w1 ⟨rfl, hb1⟩
  have HB1 := Lib.hid (show Below w.heap.size w w1 from below_step hb1 (show w.heap.size ≤ _ by simp) (show Below w.heap.size w _ by repeat (first | exact Below.refl _ _ | refine below_dN ?_ _ | refine Below.drew ?_ | refine Below.alloc ?_ (by first | omega | (simp; done) | (simp; omega)) _ | refine Below.setCell ?_ (by first | omega | (simp; done) | (simp; omega)) _ | refine below_step (by assumption) (by first | omega | (simp; done) | (simp; omega)) ?_)))
  have hz1 := HB1.out.size
  have x1 := (HGN.out.box.up HB1.out).cell 4 _ rfl
  clear hb1 x0
  go_upto_region 3 with fail
  have hmk := HMK.out w1
  go_upto_region 4 with fail
  clear hmk
  obtain ⟨w3, hw3⟩ : ∃ W, W = w1.alloc (.cells (blC (List.replicate t.vars.length false)).toArray 4) := ⟨_, rfl⟩
  rw [← hw3]
  have HK3 := Lib.hid (show w3.ownsRow w.heap.size 4 1 (.slice (some ⟨w1.heap.size, 0, none⟩) t.vars.length t.vars.length) t.vars.length (blC (List.replicate t.vars.length false)) by
    rw [hw3]
    exact own_box (BxI.new _ _ _) hz1 (by unfold blC; simp) (by unfold maxLen; omega))
  have HB3 := Lib.hid (show Below w.heap.size w w3 by rw [hw3]; exact HB1.out.alloc hz1 _)
  have hz3 : w1.heap.size + 1 ≤ w3.heap.size := by rw [hw3]; simp
  have x1 := (HGN.out.box.up HB3.out).cell 4 _ rfl
  clear hw3
  have HKC := Lib.hid (collect_any HTR.out hnv w3 w.heap.size [] none 0 s SA Sc w1.heap.size (List.replicate t.vars.length false) HB3.out (Nat.le_refl _) (by omega) (HSI.out.keep (fun q hq => HB3.out.cell hq) (Nat.le_refl _)) HST.out (World.ownsRow_nil _ _ _ _) (by simp; omega) HK3.out)
  rw [List.nil_append] at HKC
  obtain ⟨cl, hcl⟩ : ∃ cl, cl = C s := ⟨_, rfl⟩
  rw [← hcl] at HKC HSO hclen
  clear hcl
  go_wp2_with fail
  refine HKC.out.mono ?_
  rintro e w5 ⟨⟨A5, c5, bs5, rfl, ho5, hk5⟩, hb5⟩
  have HB5 := Lib.hid (HB3.out.trans hb5)
  have HO5 := Lib.hid ho5
  have HK5 := Lib.hid hk5
  have hz5 := HB5.out.size
  clear ho5 hk5 hb5 x1
  go_wp2_with fail
  refine (sort_own HO5.out (by omega) hz5).mono ?_
  rintro e w6 ⟨rfl, ho6, hb6, hkb6⟩
  rw [HSO.out] at ho6
  have hlc : (appL t s).length = cl.length := by rw [← HSO.out, List.length_mergeSort]
  have HO6 := Lib.hid (show w6.ownsRow w.heap.size 3 1 (.slice A5 (appL t s).length c5) (appL t s).length (ic (appL t s)) by rw [hlc]; exact ho6)
  have HK6 := Lib.hid (own_kb1 HK5.out hkb6 (fun b hb e => by
    obtain ⟨cur, hc⟩ := own_blk HO5.out e
    obtain ⟨cur2, hc2⟩ := own_blk HK5.out hb
    rw [hc] at hc2; simp at hc2))
  have HB6 := Lib.hid (HB5.out.trans hb6)
  rw [← hlc]
  clear ho6 hb6 hkb6 hlc
  dsimp only
  go_wp2_with fail
  go_loopw [8, 37] (fun v8 v37 wr => ∃ (i : Nat) (m : Int), v8 = .int .i64 m ∧ v37 = .int .i64 i ∧ i ≤ t.vars.length ∧ 0 ≤ m ∧ m ≤ i ∧ wr = w6) (fun _ v _ => t.vars.length - (RowKit.intOf v).toNat)
  case atStart => exact ⟨0, 0, rfl, rfl, Nat.zero_le _, by omega, by omega, rfl⟩
  case round =>
    obtain ⟨i, m, rfl, rfl, hi, hm0, hm1, rfl⟩ := hrel
    by_cases hlt : i < t.vars.length
    · have hbl : i < (blC bs5).length := by rw [HK6.out.1]; omega
      obtain ⟨b, hb⟩ : ∃ b, (blC bs5)[i]? = some (.bool b) := by
        unfold blC at hbl ⊢
        rw [List.length_map] at hbl
        exact ⟨bs5[i], by rw [List.getElem?_map, List.getElem?_eq_getElem hbl]; rfl⟩
      have i0 := own_cell HK6.out hb
      clear hb hbl
      cases b
      · go_wp2
        go_roundw
        case rel => exact ⟨i + 1, m, rfl, rfl, by omega, hm0, by omega, by first | rfl | trivial⟩
        case measure => simp [RowKit.intOf]; omega
      · go_wp2
        go_roundw
        case rel => exact ⟨i + 1, m + 1, rfl, rfl, by omega, by omega, by omega, by first | rfl | trivial⟩
        case measure => simp [RowKit.intOf]; omega
    · obtain rfl : i = t.vars.length := by omega
      go_wp2
      refine bodyPost_ret (v := .tuple #[.slice A5 (appL t s).length c5, .int .i64 m]) (by simp [results, Tryz.results61, go_sem, ↓IntWalk.iteOmega, *]) rfl ⟨⟨A5, c5, m, rfl, HO6.out⟩, HB6.out⟩
set_option maxHeartbeats 2000000 in
theorem gapp_any (t : Tsk) (G : Nat) (s : List Int) (SA : Option Addr) (Sc : Nat) (w : World) (hg : GenAt w G t) (hr : Right t) (hs : IntsAt w w.heap.size SA s) (hst : StP t.vars s) :
    Calls Tryz.prog 39 #[.pointer (some ⟨G, 0, none⟩), .slice SA s.length Sc] w fun e w' => AplR w.heap.size (appL t s) e w' ∧ Below w.heap.size w w' := by
  have K := Lib.hid (gfind_any t G s SA Sc w hg hr hs hst)
  obtain ⟨l, hl⟩ : ∃ l, l = appL t s := ⟨_, rfl⟩
  rw [← hl] at K
  rw [← hl]
  clear hg hr hs hst hl
  go_enter Tryz.func39, Tryz.ntmps39
  go_wp2_with fail
  refine K.out.mono ?_
  rintro e w1 ⟨⟨A, c, m, rfl, ho⟩, hb⟩
  have HO := Lib.hid ho
  have HB := Lib.hid hb
  clear ho hb
  go_wp2
  refine bodyPost_ret (v := .slice A l.length c) (by simp [results, Tryz.results39, go_sem, ↓IntWalk.iteOmega, *]) rfl ⟨⟨A, c, rfl, HO.out⟩, HB.out⟩
set_option maxHeartbeats 2000000 in
theorem gcount_any (t : Tsk) (G : Nat) (s : List Int) (SA : Option Addr) (Sc : Nat) (w : World) (hg : GenAt w G t) (hr : Right t) (hs : IntsAt w w.heap.size SA s) (hst : StP t.vars s) :
    Calls Tryz.prog 26 #[.pointer (some ⟨G, 0, none⟩), .slice SA s.length Sc] w fun e w' => e = .returned (.int .i64 ((appL t s).length : Nat)) ∧ Below w.heap.size w w' := by
  have K := Lib.hid (gapp_any t G s SA Sc w hg hr hs hst)
  obtain ⟨l, hl⟩ : ∃ l, l = appL t s := ⟨_, rfl⟩
  rw [← hl] at K
  rw [← hl]
  clear hg hr hs hst hl
  go_enter Tryz.func26, Tryz.ntmps26
  go_wp2_with fail
  refine K.out.mono ?_
  rintro e w1 ⟨⟨A, c, rfl, ho⟩, hb⟩
  have HB := Lib.hid hb
  clear ho hb
  go_wp2
  refine bodyPost_ret (v := .int .i64 (l.length : Nat)) (by simp [results, Tryz.results26, go_sem, ↓IntWalk.iteOmega, *]) rfl ⟨rfl, HB.out⟩
end Go.Proofs.YtpobnjbpglaohaaGreat

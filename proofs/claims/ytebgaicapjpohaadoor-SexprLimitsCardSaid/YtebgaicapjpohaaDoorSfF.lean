/- repeated, Clip, Num, walked. -/
import Derived.Test.YtebgaicapjpohaaDoorSfE
import Derived.Lib.AppendStr
import Derived.Laws.MakeOwn
namespace Go.Proofs.YtebgaicapjpohaaDoor
set_option linter.unusedSimpArgs false
set_option linter.unusedVariables false
open Go Go.RowKit
set_option linter.unusedVariables false

theorem assert_errno (v : Value) (w : World) : (Instr.typeAssert (.iface 41 v) 28 41 true).run Tryd.prog w = .ok (.tuple #[v, .bool true]) w := by kernel_rfl
set_option maxHeartbeats 400000 in
theorem num_er (c : Int) (hc : c ≠ 0) (w : World) :
    Calls Tryd.prog 9 #[.iface 41 (.int .i64 c)] w fun e w' => e = .returned (.int .i64 c) ∧ w' = w := by
  have ta := assert_errno
  clear hc
  go_enter Tryd.func9, Tryd.ntmps9
  go_wp2
  go_ret
  exact ⟨rfl, rfl⟩
/-- A number moved into -3 .. 3. -/
def clip3 (n : Int) : Int := if n < -3 then -3 else if 3 < n then 3 else n
theorem clip3_bd (n : Int) : -3 ≤ clip3 n ∧ clip3 n ≤ 3 := by unfold clip3; split <;> (try split) <;> omega
set_option maxHeartbeats 400000 in
theorem clip_any (n : Int) (w : World) : Calls Tryd.prog 6 #[.int .i64 n, .int .i64 (-3), .int .i64 3] w fun e w' => e = .returned (.int .i64 (clip3 n)) ∧ w' = w := by
  by_cases h1 : n < -3
  · have e : clip3 n = -3 := if_pos h1
    rw [e]
    clear e
    go_enter Tryd.func6, Tryd.ntmps6
    go_wp2
    refine bodyPost_ret (v := .int .i64 (-3)) (by simp [results, Tryd.results6, go_sem, ↓IntWalk.iteOmega, *] <;> omega) rfl ⟨rfl, rfl⟩
  · by_cases h2 : 3 < n
    · have e : clip3 n = 3 := by unfold clip3; rw [if_neg h1, if_pos h2]
      rw [e]
      clear e
      go_enter Tryd.func6, Tryd.ntmps6
      go_wp2
      refine bodyPost_ret (v := .int .i64 3) (by simp [results, Tryd.results6, go_sem, ↓IntWalk.iteOmega, *] <;> omega) rfl ⟨rfl, rfl⟩
    · have e : clip3 n = n := by unfold clip3; rw [if_neg h1, if_neg h2]
      rw [e]
      clear e
      go_enter Tryd.func6, Tryd.ntmps6
      go_wp2
      refine bodyPost_ret (v := .int .i64 n) (by simp [results, Tryd.results6, go_sem, ↓IntWalk.iteOmega, *] <;> omega) rfl ⟨rfl, rfl⟩
theorem undBy : Tryd.prog.underlying 40 = some (.slice 5) := by kernel_rfl
theorem undStr : Tryd.prog.underlying 9 = some .string := by kernel_rfl
theorem infoBy : (Tryd.prog.info? 5).map (fun i => (i.zero, i.size, i.bytes)) = some (some (.int .u8 0), 1, 1) := by kernel_rfl
theorem strCells_bs (s : List UInt8) : Lib.strCells (bs s) = s.map fun b => Value.int .u8 b.toNat := rfl

theorem repP_more (s : List UInt8) : ∀ n, repP s n ++ s = repP s (n + 1)
  | 0 => by simp [repP]
  | n + 1 => by
    rw [repP, List.append_assoc, repP_more s n]
    rfl
theorem own_by {w : World} {B g n c : Nat} {l : List UInt8} (h : w.ownsRow B 5 1 (.slice (some ⟨g, 0, none⟩) n c) n (l.map fun b => Value.int .u8 b.toNat)) : ByAt w g l where
  lt := (h.lt g rfl).2
  cell := fun k hk => own_cell h (by rw [List.getElem?_map, List.getElem?_eq_getElem hk]; unfold bt; simp [List.getD, hk])
  fz := fun k hk => by
    rcases h.2 with ⟨h0, _⟩ | ⟨g', cap, cur, h0, hb, hg, _⟩
    · cases h0
    · injection h0 with h0 _ _
      injection h0 with h0
      injection h0 with h0 _ _
      subst h0
      simp [World.frozen?, hg]

set_option maxHeartbeats 4000000 in
theorem repeated_any (s : List UInt8) (n : Nat) (w : World) (hn : n * s.length ≤ 1000000) (hn2 : n ≤ 1000000) : Calls Tryd.prog 7 #[.string (bs s), .int .i64 (n : Int)] w fun e w' => e = .returned (.string (bs (repP s n))) ∧ Below w.heap.size w w' := by
  obtain ⟨infB, hiB, ez0, ez1, ez2⟩ := info_parts infoBy
  have hz := bs_size s
  obtain ⟨S, hS⟩ : ∃ S, bs s = S := ⟨_, rfl⟩
  have HS := Lib.hid hS
  rw [hS] at hz
  rw [hS]
  clear hS
  obtain ⟨wm, hm1, hm2, hm3⟩ := run_make_own (P := Tryd.prog) w w.heap.size 40 5 infB (.int .u8 0) 1 undBy hiB ez0 ez1 .i64 .i64 (n * s.length) (by rw [ez2]; omega) (by unfold maxLen; omega) (Nat.le_refl _)
  have hnl : ((n * s.length : Nat) : Int) = (n : Int) * (s.length : Int) := by rw [Int.natCast_mul]
  have hmm : (n : Int) * (s.length : Int) ≤ 1000000 := by rw [← hnl]; omega
  have hm0 : 0 ≤ (n : Int) * (s.length : Int) := by rw [← hnl]; omega
  rw [hnl] at hm1
  have HO := Lib.hid hm2
  have HG := Lib.hid (show Below w.heap.size w wm from (Below.refl w.heap.size w).grown hm3 (Nat.le_refl _) (fun k hk => by cases hk))
  clear hm2 hm3 hnl
  go_enter Tryd.func7, Tryd.ntmps7
  go_wp2_with fail
  go_loopw [5, 6] (fun v5 v wr => ∃ (j g c' : Nat), j ≤ n ∧ v = .int .i64 j ∧ v5 = .slice (some ⟨g, 0, none⟩) (j * s.length) c' ∧ Hid (wr.ownsRow w.heap.size 5 1 (.slice (some ⟨g, 0, none⟩) (j * s.length) c') (j * s.length) ((repP s j).map fun b => Value.int .u8 b.toNat)) ∧ Hid (Below w.heap.size w wr)) (fun _ v _ => n - (RowKit.intOf v).toNat)
  case atStart => exact ⟨0, w.heap.size, _, Nat.zero_le _, rfl, by rw [Nat.zero_mul], Lib.hid (by rw [Nat.zero_mul]; exact HO.out), HG⟩
  case round =>
    obtain ⟨j, g, c', hj, rfl, rfl, HOJ, HB⟩ := hrel
    have hbz := HB.out.size
    by_cases hlt : j < n
    · have hd1 : decide ((j : Int) < (n : Int)) = true := by simp; omega
      have hle : (j + 1) * s.length ≤ n * s.length := Nat.mul_le_mul_right _ hlt
      have hje : (j + 1) * s.length = j * s.length + S.size := by rw [Nat.succ_mul, hz]
      have hle2 : j * s.length + S.size ≤ 1000000 := by omega
      have HJE := Lib.hid hje
      clear hle hje hm1
      go_wp2_with (at_builtin; refine Lib.wpList_append_own_string wr rfl _ _ 40 9 rfl w.heap.size 5 infB undBy undStr hiB ez0 ez1 ez2 (.slice (some ⟨g, 0, none⟩) (j * s.length) c') (j * s.length) ((repP s j).map fun b => Value.int .u8 b.toNat) rfl HOJ.out S rfl (by unfold maxLen; omega) (by omega) hbz ?_; intro v8 w8 hown8 hgrow8 hne8; have HB8 := Lib.hid (HB.out.grown hgrow8 hbz (fun k hk => (HOJ.out.lt k hk).1)); have hs8 : ∃ g8 c8, v8 = .slice (some ⟨g8, 0, none⟩) (j * s.length + S.size) c8 := (by rcases own_view hown8 with ⟨h1, _⟩ | ⟨g8, c8, h1, _⟩; exact absurd (hne8.1 h1).1 (by simp); exact ⟨g8, c8, h1⟩); obtain ⟨g8, c8, rfl⟩ := hs8; have HO8 := Lib.hid hown8; clear hown8 hgrow8 hne8)
      go_roundw
      case rel => exact ⟨j + 1, g8, c8, by omega, rfl, by rw [HJE.out]; first | (done) | rfl | (rw [hz]; done) | (rw [hz]), Lib.hid (by
        rw [HJE.out]
        have := HO8.out
        rw [← HS.out, strCells_bs, ← List.map_append, repP_more] at this
        rw [← HS.out]
        exact this), HB8⟩
      case measure => simp [RowKit.intOf]; omega
    · obtain rfl : j = n := by omega
      have hcv : ∀ C, (convert 40 9 (.slice (some ⟨g, 0, none⟩) (j * s.length) C)).run Tryd.prog wr = .ok (.string (bs (repP s j))) wr := fun C => by
        have := lower_end (C := C) (own_by HOJ.out)
        rw [repP_len] at this
        exact this
      clear hm1
      go_wp2
      refine bodyPost_ret (v := .string (bs (repP s j))) (by simp [results, Tryd.results7, go_sem, ↓IntWalk.iteOmega, *]) rfl ⟨rfl, HB.out⟩
end Go.Proofs.YtebgaicapjpohaaDoor

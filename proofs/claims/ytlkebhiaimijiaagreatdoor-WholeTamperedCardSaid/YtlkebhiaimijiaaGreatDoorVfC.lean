/- certificate: number, head, walked. -/
import Derived.Test.YtlkebhiaimijiaaGreatDoorVeD
import Derived.Test.YtlkebhiaimijiaaGreatDoorNgR
import Derived.Laws.IdiomStrings
import Derived.Laws.AppendOwn
namespace Go.Proofs.YtlkebhiaimijiaaGreatDoor
set_option linter.unusedSimpArgs false
set_option linter.unusedVariables false
open Go Go.RowKit
set_option linter.unusedVariables false

theorem sund9 : Tryz.prog.underlying 9 = some .string := by kernel_rfl
theorem sund107 : Tryz.prog.underlying 107 = some (.slice 5) := by kernel_rfl
theorem sund5 : Tryz.prog.underlying 5 = some (.int .u8) := by kernel_rfl
/-- The bytes of a text in a new row. -/
theorem conv_bytes (s : ByteArray) (w : World) : ∃ (c : Nat) (W : World), (convert 9 107 (.string s)).run Tryz.prog w = .ok (.slice (some ⟨w.heap.size, 0, none⟩) s.size c) W ∧ s.size ≤ c ∧ Below w.heap.size w W ∧ w.heap.size < W.heap.size ∧ ∀ k, k < s.size → W.cell? ⟨w.heap.size, k, none⟩ = some (.int .u8 ((byt s k).toNat : Int)) := by
  refine ⟨_, _, run_bytes_of_string w 9 107 5 s sund9 sund107 sund5, ?_, ?_, ?_, fun k hk => ?_⟩
  · exact grownCap_ge _ _ _ _
  · exact ((Below.refl _ _).drew).alloc (Nat.le_refl _) _
  · simp
  · rw [cell_of_row _ w.heap.size _ _ _ _ (heap_alloc_new w.drew _), bytesRow_at s _ k hk, byt_eq hk]
    rfl
def NmRet (e : Ending) : Prop := ∃ (n : Int) (b : Bool), e = .returned (.tuple #[.int .i64 n, .bool b])

set_option maxRecDepth 20000 in
set_option maxHeartbeats 4000000 in
theorem number_any (s : ByteArray) (w : World) (hs : s.size ≤ 1000000) : Calls Tryz.prog 84 #[.string s] w fun e w' => NmRet e ∧ Below w.heap.size w w' := by
  obtain ⟨c, W, hcv, hcap, hbW, hWz, hcell⟩ := conv_bytes s w
  have HC := Lib.hid hcell
  have HBW := Lib.hid hbW
  clear hcell hbW
  by_cases h1 : s.size < 1
  · go_enter Tryz.func84, Tryz.ntmps84
    go_wp2
    refine bodyPost_ret (v := .tuple #[.int .i64 0, .bool false]) (by simp [results, Tryz.results84, go_sem]) rfl ⟨⟨0, false, rfl⟩, Below.refl _ _⟩
  by_cases h13 : 13 < s.size
  · go_enter Tryz.func84, Tryz.ntmps84
    go_wp2
    refine bodyPost_ret (v := .tuple #[.int .i64 0, .bool false]) (by simp [results, Tryz.results84, go_sem]) rfl ⟨⟨0, false, rfl⟩, Below.refl _ _⟩
  have h0 : 0 < s.size := by omega
  have h14 : s.size ≤ 13 := by omega
  by_cases h2 : 1 < s.size ∧ ((s[0]'h0).toNat : Int) = 48
  · obtain ⟨h2, h3⟩ := h2
    have e3 : (((s[0]'h0).toNat : Int) == 48) = true := by rw [h3]; rfl
    go_enter Tryz.func84, Tryz.ntmps84
    go_wp2
    refine bodyPost_ret (v := .tuple #[.int .i64 0, .bool false]) (by simp [results, Tryz.results84, go_sem]) rfl ⟨⟨0, false, rfl⟩, Below.refl _ _⟩
  · rcases Nat.lt_or_ge 1 s.size with h5 | h5
    · have e3 : (((s[0]'h0).toNat : Int) == 48) = false := by rw [beq_eq_false_iff_ne]; exact fun e => h2 ⟨h5, e⟩
      clear h2
      go_enter Tryz.func84, Tryz.ntmps84
      go_wp2_with fail
      go_loopw [4, 28] (fun v4 v28 wr => ∃ (k : Nat) (n : Int), v4 = .int .i64 n ∧ v28 = .int .i64 k ∧ k ≤ s.size ∧ Hid (Below W.heap.size W wr)) (fun _ v28 _ => s.size - (intOf v28).toNat)
      case atStart => exact ⟨0, 0, rfl, rfl, by omega, Lib.hid (Below.refl _ _)⟩
      case round =>
        obtain ⟨k, n, rfl, rfl, hk, HE⟩ := hrel
        obtain ⟨wt, rfl⟩ : ∃ wt : World, wt = wr := ⟨_, rfl⟩
        have HBt := Lib.hid (show Below w.heap.size w wt from HBW.out.trans (HE.out.mono HBW.out.size))
        have hzt := HE.out.size
        by_cases hlt : k < s.size
        · have d1 := (HE.out.cell (p := ⟨w.heap.size, k, none⟩) hWz).trans (HC.out k hlt)
          obtain ⟨u, hu⟩ : ∃ u : UInt8, u = byt s k := ⟨_, rfl⟩
          rw [← hu] at d1
          have hw2 : w.heap.size < wt.heap.size := by omega
          have hu2 := u.toNat_lt
          clear hu
          by_cases q1 : (u.toNat : Int) < 48
          · have e4 : decide ((u.toNat : Int) < 48) = true := decide_eq_true q1
            go_wp2
            refine bodyPost_ret (v := .tuple #[.int .i64 0, .bool false]) (by simp [results, Tryz.results84, go_sem]) rfl ⟨⟨0, false, rfl⟩, HBt.out⟩
          have e4 : decide ((u.toNat : Int) < 48) = false := decide_eq_false q1
          by_cases q2 : 57 < (u.toNat : Int)
          · have e5 : decide (57 < (u.toNat : Int)) = true := decide_eq_true q2
            go_wp2
            refine bodyPost_ret (v := .tuple #[.int .i64 0, .bool false]) (by simp [results, Tryz.results84, go_sem]) rfl ⟨⟨0, false, rfl⟩, HBt.out⟩
          · have e5 : decide (57 < (u.toNat : Int)) = false := decide_eq_false q2
            go_wp2
            go_roundw
            case rel => exact ⟨k + 1, _, rfl, by go_num, by omega, HE⟩
            case measure => simp [intOf]; omega
        · go_wp2
          refine bodyPost_ret (v := .tuple #[.int .i64 n, .bool true]) (by simp [results, Tryz.results84, go_sem]) rfl ⟨⟨n, true, rfl⟩, HBt.out⟩
    · clear h2
      go_enter Tryz.func84, Tryz.ntmps84
      go_wp2_with fail
      go_loopw [4, 28] (fun v4 v28 wr => ∃ (k : Nat) (n : Int), v4 = .int .i64 n ∧ v28 = .int .i64 k ∧ k ≤ s.size ∧ Hid (Below W.heap.size W wr)) (fun _ v28 _ => s.size - (intOf v28).toNat)
      case atStart => exact ⟨0, 0, rfl, rfl, by omega, Lib.hid (Below.refl _ _)⟩
      case round =>
        obtain ⟨k, n, rfl, rfl, hk, HE⟩ := hrel
        obtain ⟨wt, rfl⟩ : ∃ wt : World, wt = wr := ⟨_, rfl⟩
        have HBt := Lib.hid (show Below w.heap.size w wt from HBW.out.trans (HE.out.mono HBW.out.size))
        have hzt := HE.out.size
        by_cases hlt : k < s.size
        · have d1 := (HE.out.cell (p := ⟨w.heap.size, k, none⟩) hWz).trans (HC.out k hlt)
          obtain ⟨u, hu⟩ : ∃ u : UInt8, u = byt s k := ⟨_, rfl⟩
          rw [← hu] at d1
          have hw2 : w.heap.size < wt.heap.size := by omega
          have hu2 := u.toNat_lt
          clear hu
          by_cases q1 : (u.toNat : Int) < 48
          · have e4 : decide ((u.toNat : Int) < 48) = true := decide_eq_true q1
            go_wp2
            refine bodyPost_ret (v := .tuple #[.int .i64 0, .bool false]) (by simp [results, Tryz.results84, go_sem]) rfl ⟨⟨0, false, rfl⟩, HBt.out⟩
          have e4 : decide ((u.toNat : Int) < 48) = false := decide_eq_false q1
          by_cases q2 : 57 < (u.toNat : Int)
          · have e5 : decide (57 < (u.toNat : Int)) = true := decide_eq_true q2
            go_wp2
            refine bodyPost_ret (v := .tuple #[.int .i64 0, .bool false]) (by simp [results, Tryz.results84, go_sem]) rfl ⟨⟨0, false, rfl⟩, HBt.out⟩
          · have e5 : decide (57 < (u.toNat : Int)) = false := decide_eq_false q2
            go_wp2
            go_roundw
            case rel => exact ⟨k + 1, _, rfl, by go_num, by omega, HE⟩
            case measure => simp [intOf]; omega
        · go_wp2
          refine bodyPost_ret (v := .tuple #[.int .i64 n, .bool true]) (by simp [results, Tryz.results84, go_sem]) rfl ⟨⟨n, true, rfl⟩, HBt.out⟩

set_option maxRecDepth 20000 in
set_option maxHeartbeats 4000000 in
theorem head_any (s : ByteArray) (w : World) (hs : s.size ≤ 1000000) : Calls Tryz.prog 48 #[.string s] w fun e w' => NmRet e ∧ Below w.heap.size w w' := by
  obtain ⟨r, hr⟩ : ∃ r : ByteArray, r = ⟨(Lib.trimPrefix s.data.toList [108, 111, 119, 101, 114, 32]).toArray⟩ := ⟨_, rfl⟩
  obtain ⟨b, hb⟩ : ∃ b, b = Lib.hasPrefix s.data.toList [108, 111, 119, 101, 114, 32] := ⟨_, rfl⟩
  have hrs : r.size ≤ s.size := by
    rw [hr]
    show (Lib.trimPrefix s.data.toList _).toArray.size ≤ _
    rw [List.size_toArray]
    unfold Lib.trimPrefix
    have : s.data.toList.length = s.size := by rw [Array.length_toList]; rfl
    split
    · rw [List.length_drop]; omega
    · omega
  have KP := Lib.hid (Tryz.strings_CutPrefix s ⟨#[108, 111, 119, 101, 114, 32]⟩ w)
  rw [show (⟨#[108, 111, 119, 101, 114, 32]⟩ : ByteArray).data.toList = [108, 111, 119, 101, 114, 32] from rfl, ← hr, ← hb] at KP
  have KN := Lib.hid (number_any r w (by omega))
  clear hr hb
  cases hu : (s.toList == [117, 110, 115, 111, 108, 118, 97, 98, 108, 101])
  · go_enter Tryz.func48, Tryz.ntmps48
    go_wp2_with fail
    refine KP.out.mono ?_
    rintro e w1 ⟨rfl, e1⟩
    subst e1
    cases b
    · go_wp2
      refine bodyPost_ret (v := .tuple #[.int .i64 0, .bool false]) (by simp [results, Tryz.results48, go_sem]) rfl ⟨⟨0, false, rfl⟩, Below.refl _ _⟩
    · go_wp2_with fail
      refine KN.out.mono ?_
      rintro e w2 ⟨⟨n, b2, rfl⟩, hb2⟩
      have HB2 := Lib.hid hb2
      clear hb2 KN KP
      go_wp2
      refine bodyPost_ret (v := .tuple #[.int .i64 n, .bool b2]) (by simp [results, Tryz.results48, go_sem]) rfl ⟨⟨n, b2, rfl⟩, HB2.out⟩
  · go_enter Tryz.func48, Tryz.ntmps48
    go_wp2
    refine bodyPost_ret (v := .tuple #[.int .i64 (-1), .bool true]) (by simp [results, Tryz.results48, go_sem]) rfl ⟨⟨-1, true, rfl⟩, Below.refl _ _⟩

/-- Cut at a byte, split at a byte: sizes. -/
theorem cutg_any (s : ByteArray) (c : UInt8) (w : World) (hs : s.size ≤ 1000000) (hE : EnvM w) :
    Calls Tryz.prog 85 #[.string s, .string ⟨#[c]⟩] w fun e w' => (∃ (a b : ByteArray) (k : Bool), e = .returned (.tuple #[.string a, .string b, .bool k]) ∧ a.size ≤ s.size ∧ b.size ≤ s.size) ∧ Below w.heap.size w w' := by
  refine (cut_any s ⟨#[c]⟩ w (by omega) hE).mono ?_
  rintro e w' ⟨rfl, hb⟩
  have hl : s.data.toList.length = s.size := by rw [Array.length_toList]; rfl
  refine ⟨⟨_, _, _, rfl, ?_, ?_⟩, hb⟩
  · show (Lib.cut s.data.toList _).1.toArray.size ≤ _
    rw [List.size_toArray]
    unfold Lib.cut
    split
    · rw [List.length_take]; omega
    · show s.data.toList.length ≤ s.size; omega
  · show (Lib.cut s.data.toList _).2.1.toArray.size ≤ _
    rw [List.size_toArray]
    unfold Lib.cut
    split
    · rw [List.length_drop]; omega
    · simp
theorem pcs_smallV (c : UInt8) : ∀ (n : Nat) (s : List UInt8), s.length ≤ n → (pcs c s).length ≤ s.length + 1 ∧ ∀ p ∈ pcs c s, p.length ≤ s.length := by
  intro n
  induction n with
  | zero =>
    intro s hs
    obtain rfl : s = [] := List.eq_nil_of_length_eq_zero (by omega)
    exact ⟨by simp [pcs], by simp [pcs]⟩
  | succ n ih =>
    intro s hs
    rcases at_or c s with h | ⟨a, b, rfl, h⟩
    · rw [pcs_no s h]; exact ⟨by simp, by simp⟩
    · rw [pcs_at a b h]
      obtain ⟨h1, h2⟩ := ih b (by simp at hs; omega)
      refine ⟨by simp; omega, fun p hp => ?_⟩
      rw [List.mem_cons] at hp
      rcases hp with rfl | hp
      · simp
      · have := h2 p hp; simp; omega
/-- The pieces: a new row of texts, none longer than the whole. -/
theorem splitg_any (s : ByteArray) (c : UInt8) (w : World) (hs : s.size ≤ 1000000) (hE : EnvM w) :
    Calls Tryz.prog 47 #[.string s, .string ⟨#[c]⟩] w fun e w' => (∃ L : List ByteArray, e = .returned (.slice (some ⟨w.heap.size, 0, none⟩) L.length L.length) ∧ 0 < L.length ∧ L.length ≤ s.size + 1 ∧ (∀ x ∈ L, x.size ≤ s.size) ∧ BxI w' w.heap.size 9 (L.map Value.string).toArray) ∧ Below w.heap.size w w' := by
  obtain ⟨m, hm⟩ := hE.max
  refine (Tryz.strings_Split s ⟨#[c]⟩ m w (by omega) hm (by show 1 ≤ 1; omega)).mono ?_
  rintro e w' ⟨rfl, rfl⟩
  have h1 := countB_pcs c s
  have h2 := splitB_pcs c s
  have h3 := pcs_smallV c _ s.data.toList (Nat.le_refl _)
  have hl : s.data.toList.length = s.size := by rw [Array.length_toList]; rfl
  have h4 : (Lib.splitB ⟨#[c]⟩ 0 (Lib.countB s ⟨#[c]⟩) s).length = Lib.countB s ⟨#[c]⟩ + 1 := by rw [h1, ← h2, List.length_map]
  refine ⟨⟨Lib.splitB ⟨#[c]⟩ 0 (Lib.countB s ⟨#[c]⟩) s, by rw [h4], by omega, by rw [h4, h1]; omega, fun x hx => ?_, BxI.new _ _ _⟩, (Below.refl _ _).alloc (Nat.le_refl _) _⟩
  have h5 := h3.2 x.data.toList (by rw [← h2]; exact List.mem_map.2 ⟨x, hx, rfl⟩)
  have h6 : x.data.toList.length = x.size := by rw [Array.length_toList]; rfl
  omega
end Go.Proofs.YtlkebhiaimijiaaGreatDoor

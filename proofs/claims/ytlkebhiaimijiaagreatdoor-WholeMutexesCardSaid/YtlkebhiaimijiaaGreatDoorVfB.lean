/- strings.Builder; certificate.Format, walked. -/
import Derived.Test.YtlkebhiaimijiaaGreatDoorBel
import Derived.Test.YtlkebhiaimijiaaGreatDoorNgE
import Derived.Test.YtlkebhiaimijiaaGreatDoorVeD
import Derived.Test.YtlkebhiaimijiaaGreatDoorShlF
import Derived.Lib.OthersKept
namespace Go.Proofs.YtlkebhiaimijiaaGreatDoor
set_option linter.unusedSimpArgs false
set_option linter.unusedVariables false
open Go Go.RowKit
set_option linter.unusedVariables false

/-- The builder at b, made behind B, holds these bytes. -/
def Bsb (B b : Nat) (l : List UInt8) (w : World) : Prop := Lib.IsBuilderF 109 5 B b (Lib.byteCells l) w
theorem Bsb.lt {B b : Nat} {l : List UInt8} {w : World} (h : Bsb B b l w) : b < w.heap.size := h.elim (fun x => x.lt) (fun x => x.lt)
theorem Bsb.le {B b : Nat} {l : List UInt8} {w : World} (h : Bsb B b l w) : B ≤ b := h.elim (fun x => x.1) (fun x => x.1)
theorem Bsb.new (w : World) : Bsb w.heap.size w.heap.size [] (w.alloc (.cells #[.pointer none, .slice none 0 0] 109)) := Lib.IsBuilderF.of (Lib.fresh_isBuilder _ _ w)
theorem bldAt_below {T e : TypeId} {B b : Nat} {p : Value} {l : List Value} {W W' : World} (h : Lib.BuilderAtF T e B b p l W) (hb : Below W.heap.size W W') : Lib.BuilderAtF T e B b p l W' := by
 have hlt := h.lt
 obtain ⟨hB, v, hv, hown, hne⟩ := h
 exact ⟨hB, v, (hb.block b hlt).trans hv, hown.kept (row := none) ⟨hb.os, hb.tape, hb.output, hb.size, fun k hk _ => hb.block k hk⟩ (Classical.em _), hne⟩
theorem Bsb.up {B b : Nat} {l : List UInt8} {W W' : World} (h : Bsb B b l W) (hb : Below W.heap.size W W') : Bsb B b l W' := h.elim (fun x => .inl (bldAt_below x hb)) (fun x => .inr (bldAt_below x hb))
theorem wr_any (B b : Nat) (l : List UInt8) (s : ByteArray) (w : World) (h : Bsb B b l w) (hlen : l.length + s.size ≤ 140737488355328) :
  Calls Tryz.prog 43 #[.pointer (some ⟨b, 0, none⟩), .string s] w fun e w' => e = .returned (.tuple #[.int .i64 s.size, .nilIface]) ∧ Bsb B b (l ++ s.data.toList) w' ∧ Below B w w' ∧ Lib.OthersKept 5 (some b) w w' := by
 have h1 := h.lt
 have h2 := h.le
 refine (Tryz.Builder_WriteString_k B b (Lib.byteCells l) s w h (by unfold Lib.byteCells; rw [List.length_map]; exact hlen) (by omega)).mono ?_
 rintro e w' ⟨he, h3, h4, h5⟩
 refine ⟨he, .inr ?_, h4, h5⟩
 have e1 : Lib.byteCells (l ++ s.data.toList) = Lib.byteCells l ++ Lib.strCells s := by unfold Lib.byteCells Lib.strCells; rw [List.map_append]
 rw [e1]
 exact h3
theorem wlen_any (B b : Nat) (l : List UInt8) (w : World) (h : Bsb B b l w) :
  Calls Tryz.prog 45 #[.pointer (some ⟨b, 0, none⟩)] w fun e w' => e = .returned (.int .i64 l.length) ∧ w' = w := by
 refine (Tryz.Builder_Len_f B b (Lib.byteCells l) w h).mono ?_
 rintro e w' ⟨he, h3⟩
 exact ⟨by rw [he]; unfold Lib.byteCells; rw [List.length_map], h3⟩
theorem wstr_any (B b : Nat) (l : List UInt8) (w : World) (h : Bsb B b l w) :
  Calls Tryz.prog 46 #[.pointer (some ⟨b, 0, none⟩)] w fun e w' => e = .returned (.string ((⟨l.toArray⟩ : ByteArray))) ∧ Below B w w' := by
 have h1 := h.lt
 have h2 := h.le
 refine (Tryz.Builder_String_any_k B b l w h (by omega)).mono ?_
 rintro e w' ⟨he, h3, h4, h5⟩
 exact ⟨he, h4⟩
/-- What lies in another block, of another type, lies there still. -/
theorem oth_block {b k : Nat} {w w' : World} {c : Array Value} {T : TypeId} {fz : Nat × Nat} (h : Lib.OthersKept 5 (some b) w w') (hk : w.heap[k]? = some (.cells c T fz)) (hne : k ≠ b) (hT : T ≠ 5) : w'.heap[k]? = some (.cells c T fz) :=
 h k _ hk (fun e => hne (Option.some.inj e)) (fun c' fz' e => hT (by cases e; rfl))

def hdA (b : Int) : ByteArray := if b < 0 then ⟨#[117, 110, 115, 111, 108, 118, 97, 98, 108, 101, 10]⟩ else (⟨#[108, 111, 119, 101, 114, 32]⟩ : ByteArray) ++ itB b ++ ⟨#[10]⟩
def ngA (d : Int) : ByteArray := (⟨#[110, 111, 103, 111, 111, 100, 32]⟩ : ByteArray) ++ itB d ++ ⟨#[58]⟩
def fcA (v x : Int) : ByteArray := (⟨#[32]⟩ : ByteArray) ++ itB v ++ ⟨#[61]⟩ ++ itB x
def fcL (l : List Fct) (j : Nat) : List UInt8 := (l.take j).flatMap fun f => (fcA f.1 f.2).data.toList
def ngL (n : Ngd) : List UInt8 := (ngA n.d).data.toList ++ fcL n.l n.l.length ++ [10]
def lnL (ns : List Ngd) (i : Nat) : List UInt8 := (ns.take i).flatMap ngL
/-- The text of a certificate. -/
def certL (b : Int) (ns : List Ngd) : List UInt8 := (hdA b).data.toList ++ lnL ns ns.length
theorem fcL_succ {l : List Fct} {j : Nat} (h : j < l.length) : fcL l (j + 1) = fcL l j ++ (fcA (fv l j) (fx l j)).data.toList := by
 unfold fcL; rw [fct_take h, List.flatMap_append]; simp
theorem lnL_succ {ns : List Ngd} {i : Nat} (h : i < ns.length) : lnL ns (i + 1) = lnL ns i ++ ngL (ng ns i) := by
 unfold lnL; rw [take_ng h, List.flatMap_append]; simp
theorem sz_list (s : ByteArray) : s.data.toList.length = s.size := by rw [Array.length_toList]; rfl
theorem hdA_size {b : Int} (h0 : -1 ≤ b) (h1 : b ≤ 1099511627776) : (hdA b).size ≤ 28 := by
 unfold hdA
 split
 ·decide
 ·have := itB_size b (by omega) (by omega)
  rw [ByteArray.size_append, ByteArray.size_append]
  show 6 + _ + 1 ≤ 28
  omega
theorem ngA_size {d : Int} (h0 : -9223372036854775808 ≤ d) (h1 : d ≤ 9223372036854775807) : (ngA d).size ≤ 29 := by
 unfold ngA
 have := itB_size d h0 h1
 rw [ByteArray.size_append, ByteArray.size_append]
 show 7 + _ + 1 ≤ 29
 omega
theorem fcA_size {v x : Int} (h0 : -9223372036854775808 ≤ v) (h1 : v ≤ 9223372036854775807) (h2 : -9223372036854775808 ≤ x) (h3 : x ≤ 9223372036854775807) : (fcA v x).size ≤ 44 := by
 unfold fcA
 have := itB_size v h0 h1
 have := itB_size x h2 h3
 rw [ByteArray.size_append, ByteArray.size_append, ByteArray.size_append]
 show 1 + _ + 1 + _ ≤ 44
 omega
theorem chk_fm {b : Int} {ns : List Ngd} (h : chkN b ns = 0) : ∀ k, k < ns.length → (ng ns k).l.length ≤ 64 ∧ ∀ j, j < (ng ns k).l.length → (0 ≤ fv (ng ns k).l j ∧ fv (ng ns k).l j < 64) ∧ 0 ≤ fx (ng ns k).l j ∧ fx (ng ns k).l j < 64 := fun k hk => by
 have h1 : fmB (ng ns k).l = true := by
  unfold chkN at h
  split at h
  ·cases h
  ·split at h
   ·cases h
   ·split at h
    ·cases h
    ·rename_i h3
     rw [Bool.not_eq_true, anyB_false] at h3
     simpa using h3 k hk
 unfold fmB at h1
 rw [decide_eq_true_eq] at h1
 have h2 : ∀ j, j < (ng ns k).l.length → (j : Int) ≤ fv (ng ns k).l j := by
  intro j
  induction j with
  | zero => intro hj; exact (h1 0 hj).1
  | succ j ih =>
   intro hj
   have a := ih (by omega)
   have b := (h1 (j + 1) hj).2.2.2.2 (by omega)
   rw [Nat.add_sub_cancel] at b
   omega
 refine ⟨?_, fun j hj => ⟨⟨(h1 j hj).1, (h1 j hj).2.1⟩, (h1 j hj).2.2.1, (h1 j hj).2.2.2.1⟩⟩
 refine Classical.byContradiction fun hn => ?_
 have a := h2 64 (by omega)
 have b := (h1 64 (by omega)).2.1
 omega
theorem fcL_len {l : List Fct} (h : ∀ j, j < l.length → (0 ≤ fv l j ∧ fv l j < 64) ∧ 0 ≤ fx l j ∧ fx l j < 64) : ∀ j, j ≤ l.length → (fcL l j).length ≤ j * 44
 | 0, _ => by simp [fcL]
 | j + 1, hj => by
  have ih := fcL_len h j (by omega)
  have hb := h j (by omega)
  rw [fcL_succ (by omega), List.length_append, sz_list]
  have := fcA_size (v := fv l j) (x := fx l j) (by omega) (by omega) (by omega) (by omega)
  omega
theorem lnL_le {ns : List Ngd} {i : Nat} (h : i ≤ ns.length) : (lnL ns i).length ≤ (lnL ns ns.length).length := by
 have h1 : lnL ns ns.length = lnL ns i ++ (ns.drop i).flatMap ngL := by
  unfold lnL
  rw [List.take_length, ← List.flatMap_append, List.take_append_drop]
 rw [h1, List.length_append]
 omega
def FmRet (b : Int) (ns : List Ngd) (e : Ending) : Prop :=
 (e = .returned (.tuple #[.string ⟨(certL b ns).toArray⟩, .nilIface]) ∧ (certL b ns).length ≤ 65536) ∨ (e = .returned (.tuple #[.string ⟨#[]⟩, .iface 49 (.int .i64 5)]) ∧ 65536 < (certL b ns).length)

set_option maxRecDepth 100000 in
set_option maxHeartbeats 16000000 in
theorem cformat_any (b : Int) (ns : List Ngd) (A : Option Addr) (c : Nat) (w : World) (h : Nls w (fun _ => False) A ns) (hc : chkN b ns = 0) (hE : EnvT w) :
  Calls Tryz.prog 19 #[.agg #[.int .i64 b, .slice A ns.length c]] w fun e w' => FmRet b ns e ∧ Below w.heap.size w w' := by
 obtain ⟨hb0, hb1, hl4, hds⟩ := chk_of hc
 have HDS := Lib.hid hds
 have HE := Lib.hid hE
 have H := Lib.hid h
 obtain ⟨W0, hW0⟩ : ∃ W0, W0 = w.alloc (.cells #[.int .i64 b, .slice A ns.length c] 41) := ⟨_, rfl⟩
 have HB0 := Lib.hid (show Below w.heap.size w W0 by rw [hW0]; exact (Below.refl _ _).alloc (Nat.le_refl _) _)
 have HX0 := Lib.hid (show BxI W0 w.heap.size 41 #[.int .i64 b, .slice A ns.length c] by rw [hW0]; exact BxI.new _ _ _)
 have K1 := Lib.hid (ccheck_any b ns A c W0 (h.up HB0.out))
 rw [hc, erV_0] at K1
 have hz0 := HB0.out.size
 clear h hE hds
 go_enter Tryz.func19, Tryz.ntmps19
 go_wp2_with fail
 rw [← hW0]
 have HW0 := Lib.hid hW0
 clear hW0
 refine K1.out.mono ?_
 rintro e w1 ⟨rfl, hx1⟩
 have HB1 := Lib.hid (show Below w.heap.size w w1 from HB0.out.trans (hx1.mono hz0))
 have HX1 := Lib.hid (HX0.out.up hx1)
 clear hx1 K1
 have x0 := HX1.out.cell 0 (.int .i64 b) rfl
 have hXl := HX1.out.lt
 obtain ⟨B, hB⟩ : ∃ B, B = w1.heap.size := ⟨_, rfl⟩
 obtain ⟨W2, hW2⟩ : ∃ W2, W2 = w1.alloc (.cells #[.pointer none, .slice none 0 0] 109) := ⟨_, rfl⟩
 have HB2 := Lib.hid (show Below w1.heap.size w1 W2 by rw [hW2]; exact (Below.refl _ _).alloc (Nat.le_refl _) _)
 have HBl2 := Lib.hid (show Bsb B B [] W2 by rw [hW2, hB]; exact Bsb.new w1)
 have hBw : w.heap.size < B := by rw [hB]; exact hXl
 have HFM := Lib.hid (chk_fm hc)
 have HHS := Lib.hid (hdA_size hb0 hb1)
 by_cases hbn : b < 0
 ·have e0 : decide (b < 0) = true := decide_eq_true hbn
  have HHD := Lib.hid (show hdA b = (⟨#[117, 110, 115, 111, 108, 118, 97, 98, 108, 101, 10]⟩ : ByteArray) by unfold hdA; rw [if_pos hbn])
  clear hbn
  go_wp2_with fail
  rw [← hW2, ← hB]
  have HW2 := Lib.hid hW2
  have HBE := Lib.hid hB
  clear hW2 hB x0 hXl e0
  refine (wr_any B B [] ⟨#[117, 110, 115, 111, 108, 118, 97, 98, 108, 101, 10]⟩ W2 HBl2.out (by decide)).mono ?_
  rintro e w4 ⟨rfl, hbl4, hbw4, _⟩
  have HBL4 := Lib.hid (show Bsb B B (hdA b).data.toList w4 by rw [HHD.out]; exact hbl4)
  have HB4 := Lib.hid (show Below w.heap.size w w4 from (HB1.out.trans (HB2.out.mono HB1.out.size)).trans (hbw4.mono (by omega)))
  have HX4 := Lib.hid (show BxI w4 w.heap.size 41 #[.int .i64 b, .slice A ns.length c] from (HX1.out.up HB2.out).low hbw4 hBw)
  clear hbl4 hbw4
  have hBl := HBL4.out.lt
  have hH28 : (hdA b).data.toList.length ≤ 28 := by rw [sz_list]; exact HHS.out
  obtain ⟨HD, hHD⟩ : ∃ HD, HD = (hdA b).data.toList := ⟨_, rfl⟩
  rw [← hHD] at HBL4 hH28
  have HHDE := Lib.hid hHD
  have x1 := HX4.out.cell 1 (.slice A ns.length c) rfl
  have hXl := HX4.out.lt
  clear hHD
  go_wp2_with fail
  clear x1 hXl
  go_loopw [28] (fun v28 wr => ∃ i : Nat, v28 = .int .i64 i ∧ i ≤ ns.length ∧ Hid ((HD ++ lnL ns i).length ≤ 65536) ∧ Hid (Bsb B B (HD ++ lnL ns i) wr) ∧ Hid (Below B w4 wr)) (fun v28 _ => ns.length - (intOf v28).toNat)
  case atStart => exact ⟨0, rfl, by omega, Lib.hid (by simp [lnL]; omega), Lib.hid (by simpa [lnL] using HBL4.out), Lib.hid (Below.refl _ _)⟩
  case round =>
   clear HBL4
   obtain ⟨i, rfl, hi, HLN, HBL, HBB⟩ := hrel
   obtain ⟨wt, rfl⟩ : ∃ wt : World, wt = wr := ⟨_, rfl⟩
   have HBt := Lib.hid (show Below w.heap.size w wt from HB4.out.trans (HBB.out.mono (by omega)))
   have hBt := HBL.out.lt
   have hwt := HBt.out.size
   by_cases hlt : i < ns.length
   ·obtain ⟨nb, no, hA, hnb, n1, n2⟩ := (H.out.up HBt.out).at_ hlt
    have hfac := ((H.out.up HBt.out).fac hlt)
    have hfm := HFM.out i hlt
    have hdd := HDS.out i hlt
    have HSU := Lib.hid (lnL_succ hlt)
    have HFC := Lib.hid (fun W (k : Below w.heap.size w W) => ((H.out.up k).fac hlt).at_)
    obtain ⟨n, hne⟩ : ∃ n, n = ng ns i := ⟨_, rfl⟩
    rw [← hne] at n1 n2 hfac hfm hdd HSU HFC
    obtain ⟨hf64, hfr⟩ := hfm
    have HFR := Lib.hid hfr
    have hd0 := hdd.1
    have hd1 : n.d ≤ 1099511627776 := by
     rcases Int.lt_or_le b 0 with h | h
     ·have := hdd.2.2 h; omega
     ·have := hdd.2.1 h; omega
    obtain ⟨W5, hW5⟩ : ∃ W5, W5 = wt.alloc (.cells #[.slice n.a n.l.length n.c, .int .i64 n.d] 97) := ⟨_, rfl⟩
    have HB5 := Lib.hid (show Below wt.heap.size wt W5 by rw [hW5]; exact (Below.refl _ _).alloc (Nat.le_refl _) _)
    have HN5 := Lib.hid (show BxI W5 wt.heap.size 97 #[.slice n.a n.l.length n.c, .int .i64 n.d] by rw [hW5]; exact BxI.new _ _ _)
    have KI := Lib.hid (itoa_any n.d W5 (by omega) (by omega) ((HE.out.up HBt.out).up HB5.out))
    have ib := itB_size n.d (by omega) (by omega)
    have HBL5 := Lib.hid (HBL.out.up HB5.out)
    rw [hA]
    clear hne hfac hfr hdd
    go_wp2_with fail
    rw [← hW5]
    have HW5 := Lib.hid hW5
    clear hW5 n1 n2
    refine KI.out.mono ?_
    rintro e w6 ⟨rfl, hx6⟩
    have HBL6 := Lib.hid (HBL5.out.up hx6)
    have HN6 := Lib.hid (HN5.out.up hx6)
    have hz5 := HB5.out.size
    have HB46 := Lib.hid (show Below B w4 w6 from (HBB.out.trans (HB5.out.mono (by omega))).trans (hx6.mono (by omega)))
    clear hx6 KI
    go_wp2_with fail
    rw [show (⟨#[110, 111, 103, 111, 111, 100, 32]⟩ : ByteArray) ++ itB n.d ++ ⟨#[58]⟩ = ngA n.d from rfl]
    refine (wr_any B B (HD ++ lnL ns i) (ngA n.d) w6 HBL6.out (by have := HLN.out; have h2 := ngA_size (d := n.d) (by omega) (by omega); omega)).mono ?_
    rintro e w7 ⟨rfl, hbl7, hbw7, hok7⟩
    have HBL7 := Lib.hid hbl7
    have HB47 := Lib.hid (show Below B w4 w7 from HB46.out.trans hbw7)
    have HN7 := Lib.hid (show BxI w7 wt.heap.size 97 #[.slice n.a n.l.length n.c, .int .i64 n.d] from oth_block hok7 HN6.out (by omega) (by decide))
    have m0 := HN7.out.cell 0 (.slice n.a n.l.length n.c) rfl
    have hml := HN7.out.lt
    clear hbl7 hbw7 hok7 ib
    go_wp2_with fail
    clear m0 hml
    go_loopw [41] (fun v41 wr => ∃ j : Nat, v41 = .int .i64 j ∧ j ≤ n.l.length ∧ Hid (Bsb B B (HD ++ lnL ns i ++ (ngA n.d).data.toList ++ fcL n.l j) wr) ∧ Hid (Below B w4 wr)) (fun v41 _ => n.l.length - (intOf v41).toNat)
    case atStart => exact ⟨0, rfl, by omega, Lib.hid (by simpa [fcL] using HBL7.out), HB47⟩
    case round =>
     clear HBL7
     obtain ⟨j, rfl, hj, HBL8, HB48⟩ := hrel
     obtain ⟨wu, rfl⟩ : ∃ wu : World, wu = wr := ⟨_, rfl⟩
     have HBu := Lib.hid (show Below w.heap.size w wu from HB4.out.trans (HB48.out.mono (by omega)))
     have hBu := HBL8.out.lt
     have HLL := Lib.hid (show (HD ++ lnL ns i ++ (ngA n.d).data.toList ++ fcL n.l j).length ≤ 70000 by
      have h1 := HLN.out
      have h2 := ngA_size (d := n.d) (by omega) (by omega)
      have h3 := fcL_len HFR.out j hj
      rw [List.length_append, List.length_append, sz_list]
      omega)
     by_cases hlt2 : j < n.l.length
     ·obtain ⟨fb, fo, hfA, hfb, hfc⟩ := (HFC.out wu HBu.out).at_ hlt2
      obtain ⟨c0, c1⟩ := hfc j hlt2
      have hbj := HFR.out j hlt2
      have HSF := Lib.hid (fcL_succ hlt2)
      obtain ⟨v, hv⟩ : ∃ v, v = fv n.l j := ⟨_, rfl⟩
      obtain ⟨x, hx⟩ : ∃ x, x = fx n.l j := ⟨_, rfl⟩
      rw [← hv, ← hx] at HSF hbj
      rw [← hv] at c0
      rw [← hx] at c1
      obtain ⟨W9, hW9⟩ : ∃ W9, W9 = wu.alloc (.cells #[.int .i64 v, .int .i64 x] 68) := ⟨_, rfl⟩
      have HB9 := Lib.hid (show Below wu.heap.size wu W9 by rw [hW9]; exact (Below.refl _ _).alloc (Nat.le_refl _) _)
      have HF9 := Lib.hid (show BxI W9 wu.heap.size 68 #[.int .i64 v, .int .i64 x] by rw [hW9]; exact BxI.new _ _ _)
      have HS9 := Lib.hid (show ∀ w' : World, Below W9.heap.size W9 w' → w'.cell? ⟨wu.heap.size, 0, none⟩ = some (.int .i64 v) ∧ w'.cell? ⟨wu.heap.size, 1, none⟩ = some (.int .i64 x) from fun w' k => ⟨(HF9.out.up k).cell 0 _ rfl, (HF9.out.up k).cell 1 _ rfl⟩)
      have KV := Lib.hid (fun W (k : Below W9.heap.size W9 W) => itoa_any v W (by omega) (by omega) (((HE.out.up HBu.out).up HB9.out).up k))
      have KX := Lib.hid (fun W (k : Below W9.heap.size W9 W) => itoa_any x W (by omega) (by omega) (((HE.out.up HBu.out).up HB9.out).up k))
      have iv := itB_size v (by omega) (by omega)
      have ix := itB_size x (by omega) (by omega)
      have HFS := Lib.hid (fcA_size (v := v) (x := x) (by omega) (by omega) (by omega) (by omega))
      have HBL9 := Lib.hid (HBL8.out.up HB9.out)
      have hz9 := HB9.out.size
      rw [hfA]
      clear hfc hv hx hbj
      go_wp2_with fail
      rw [← hW9]
      have HW9 := Lib.hid hW9
      clear hW9 c0 c1
      refine wp_region_G 7 (fun w' => w'.cell? ⟨wu.heap.size, 0, none⟩ = some (.int .i64 v) ∧ w'.cell? ⟨wu.heap.size, 1, none⟩ = some (.int .i64 x)) (by kernel_rfl) (HS9.out _ (by exact bel)) ?_
      intro hG0
      refine wpS1 0 hG0 ?_; intro hG1; clear hG0
      refine wpS2 1 hG1 ?_; intro hG2; clear hG1
      refine wpS1 5 hG2 ?_; intro hG3; clear hG2
      refine wpS2 6 hG3 ?_; intro hG4; clear hG3
      refine wpAnyG_ready (rs := [2]) (by kernel_rfl) (by simp) (AllG.cons rfl hG4 (fun K hK => ?_) AllG.nil)
      (go_simp; go_at_call 44; refine (KV.out _ (by exact bel)).mono ?_; rintro e wa ⟨rfl, hba⟩; have HBa := Lib.hid (show Below W9.heap.size W9 wa from below_step hba (show W9.heap.size ≤ _ by simp) (show Below W9.heap.size W9 _ by exact bel)); clear hba)
      refine hK.out _ _ (Or.inr (HS9.out _ HBa.out)) (fun hG5 => wpN ?_); clear hK hG4
      refine wpS1 3 hG5 ?_; intro hG6; clear hG5
      refine wpS1 4 hG6 ?_; intro hG7; clear hG6
      refine wpAnyG_ready (rs := [7]) (by kernel_rfl) (by simp) (AllG.cons rfl hG7 (fun K hK => ?_) AllG.nil)
      (go_simp; go_at_call 44; refine (KX.out _ HBa.out).mono ?_; rintro e wb ⟨rfl, hbb⟩; have HBb := Lib.hid (show Below W9.heap.size W9 wb from HBa.out.trans (hbb.mono HBa.out.size)); clear hbb)
      refine hK.out _ _ (Or.inl rfl) (fun hG8 => wpN ?_); clear hK hG7
      refine wpS1 8 hG8 ?_; intro hG9; clear hG8
      refine wpAnyG_ready (rs := [9]) (by kernel_rfl) (by simp) (AllG.cons rfl hG9 (fun K hK => ?_) AllG.nil)
      (go_simp; go_at_call 43; rw [show (⟨#[32]⟩ : ByteArray) ++ itB v ++ ⟨#[61]⟩ ++ itB x = fcA v x from rfl]; refine (wr_any B B (HD ++ lnL ns i ++ (ngA n.d).data.toList ++ fcL n.l j) (fcA v x) _ (HBL9.out.up HBb.out) (by have h1 := HLL.out; have h2 := HFS.out; omega)).mono ?_; rintro e wc ⟨rfl, hblc, hbwc, _⟩; have HBLc := Lib.hid (show Bsb B B (HD ++ lnL ns i ++ (ngA n.d).data.toList ++ fcL n.l (j + 1)) wc by rw [HSF.out, ← List.append_assoc]; exact hblc); have HB4c := Lib.hid (show Below B w4 wc from (HB48.out.trans ((HB9.out.trans (HBb.out.mono hz9)).mono (by omega))).trans hbwc); clear hblc hbwc)
      refine hK.out _ _ (Or.inl rfl) (fun hG10 => wpN ?_); clear hK hG9
      refine wpAnyG_done (by kernel_rfl) ?_ _; clear hG10
      go_wp2
      go_roundw
      case rel => exact ⟨j + 1, by go_num, by omega, HBLc, HB4c⟩
      case measure => simp [intOf]; omega
     ·obtain rfl : j = n.l.length := by omega
      go_wp2_with fail
      refine (wr_any B B (HD ++ lnL ns i ++ (ngA n.d).data.toList ++ fcL n.l n.l.length) ⟨#[10]⟩ wu HBL8.out (by have := HLL.out; show _ + 1 ≤ _; omega)).mono ?_
      rintro e wd ⟨rfl, hbld, hbwd, _⟩
      obtain ⟨l9, hl9⟩ : ∃ l9, l9 = HD ++ lnL ns (i + 1) := ⟨_, rfl⟩
      have HBLd := Lib.hid (show Bsb B B l9 wd by rw [hl9, HSU.out]; unfold ngL; rw [← List.append_assoc, ← List.append_assoc, ← List.append_assoc]; exact hbld)
      have hl9b : l9.length ≤ 70001 := by
       have h1 := HLL.out
       rw [hl9, HSU.out]; unfold ngL
       rw [← List.append_assoc, ← List.append_assoc, ← List.append_assoc, List.length_append]
       simp only [List.length_singleton]
       omega
      have HL9 := Lib.hid hl9
      have HB4d := Lib.hid (show Below B w4 wd from HB48.out.trans hbwd)
      have HBd := Lib.hid (show Below w.heap.size w wd from HB4.out.trans (HB4d.out.mono (by omega)))
      clear hbld hbwd hl9
      go_wp2_with fail
      refine (wlen_any B B l9 wd HBLd.out).mono ?_
      rintro e we ⟨rfl, rfl⟩
      by_cases hbig : 65536 < l9.length
      ·have e5 : decide ((65536 : Int) < l9.length) = true := decide_eq_true (by omega)
       go_wp2
       refine bodyPost_ret (v := .tuple #[.string ⟨#[]⟩, .iface 49 (.int .i64 5)]) (by simp [results, Tryz.results19, go_sem]) rfl ⟨.inr ⟨rfl, by have h1 : (lnL ns (i + 1)).length ≤ (lnL ns ns.length).length := lnL_le (by omega); have h2 := HL9.out; have h3 : (certL b ns).length = (HD ++ lnL ns ns.length).length := (by unfold certL; rw [HHDE.out]); rw [h3, List.length_append]; rw [h2, List.length_append] at hbig; omega⟩, HBd.out⟩
      ·have e5 : decide ((65536 : Int) < l9.length) = false := decide_eq_false (by omega)
       have HLN9 := Lib.hid (show (HD ++ lnL ns (i + 1)).length ≤ 65536 by rw [← HL9.out]; omega)
       go_wp2
       go_roundw
       case rel => exact ⟨i + 1, by go_num, by omega, HLN9, Lib.hid (by rw [← HL9.out]; exact HBLd.out), HB4d⟩
       case measure => simp [intOf]; omega
   ·obtain rfl : i = ns.length := by omega
    have HCL := Lib.hid (show certL b ns = HD ++ lnL ns ns.length by unfold certL; rw [HHDE.out])
    go_wp2_with fail
    refine (wstr_any B B (HD ++ lnL ns ns.length) wt HBL.out).mono ?_
    rintro e wd ⟨rfl, hbwd⟩
    have HBd := Lib.hid (show Below w.heap.size w wd from HBt.out.trans (hbwd.mono (by omega)))
    clear hbwd
    go_wp2
    refine bodyPost_ret (v := .tuple #[.string ⟨(HD ++ lnL ns ns.length).toArray⟩, .nilIface]) (by simp [results, Tryz.results19, go_sem]) rfl ⟨.inl ⟨by rw [HCL.out], by rw [HCL.out]; exact HLN.out⟩, HBd.out⟩
 ·have e0 : decide (b < 0) = false := decide_eq_false hbn
  have HHD := Lib.hid (show (hdA b) = (⟨#[108, 111, 119, 101, 114, 32]⟩ : ByteArray) ++ itB b ++ ⟨#[10]⟩ by unfold hdA; rw [if_neg hbn])
  have KI := Lib.hid (itoa_any b W2 (by omega) (by omega) ((HE.out.up HB1.out).up HB2.out))
  have ib := itB_size b (by omega) (by omega)
  clear hbn
  go_wp2_with fail
  rw [← hW2]
  have HW2 := Lib.hid hW2
  clear hW2 x0 hXl e0
  refine KI.out.mono ?_
  rintro e w3 ⟨rfl, hx3⟩
  have HBl3 := Lib.hid (HBl2.out.up hx3)
  have HX3 := Lib.hid ((HX1.out.up HB2.out).up hx3)
  have HB3 := Lib.hid (show Below w.heap.size w w3 from (HB1.out.trans (HB2.out.mono HB1.out.size)).trans (hx3.mono (Nat.le_trans HB1.out.size HB2.out.size)))
  clear hx3 KI
  go_wp2_with fail
  rw [← hB]
  have HBE := Lib.hid hB
  clear hB
  rw [← HHD.out]
  refine (wr_any B B [] (hdA b) w3 HBl3.out (by have := HHS.out; show 0 + _ ≤ _; omega)).mono ?_
  rintro e w4 ⟨rfl, hbl4, hbw4, _⟩
  have HBL4 := Lib.hid (show Bsb B B (hdA b).data.toList w4 from hbl4)
  have HB4 := Lib.hid (show Below w.heap.size w w4 from HB3.out.trans (hbw4.mono (by omega)))
  have HX4 := Lib.hid (show BxI w4 w.heap.size 41 #[.int .i64 b, .slice A ns.length c] from HX3.out.low hbw4 hBw)
  clear hbl4 hbw4 ib
  have hBl := HBL4.out.lt
  have hH28 : (hdA b).data.toList.length ≤ 28 := by rw [sz_list]; exact HHS.out
  obtain ⟨HD, hHD⟩ : ∃ HD, HD = (hdA b).data.toList := ⟨_, rfl⟩
  rw [← hHD] at HBL4 hH28
  have HHDE := Lib.hid hHD
  have x1 := HX4.out.cell 1 (.slice A ns.length c) rfl
  have hXl := HX4.out.lt
  clear hHD
  go_wp2_with fail
  clear x1 hXl
  go_loopw [28] (fun v28 wr => ∃ i : Nat, v28 = .int .i64 i ∧ i ≤ ns.length ∧ Hid ((HD ++ lnL ns i).length ≤ 65536) ∧ Hid (Bsb B B (HD ++ lnL ns i) wr) ∧ Hid (Below B w4 wr)) (fun v28 _ => ns.length - (intOf v28).toNat)
  case atStart => exact ⟨0, rfl, by omega, Lib.hid (by simp [lnL]; omega), Lib.hid (by simpa [lnL] using HBL4.out), Lib.hid (Below.refl _ _)⟩
  case round =>
   clear HBL4
   obtain ⟨i, rfl, hi, HLN, HBL, HBB⟩ := hrel
   obtain ⟨wt, rfl⟩ : ∃ wt : World, wt = wr := ⟨_, rfl⟩
   have HBt := Lib.hid (show Below w.heap.size w wt from HB4.out.trans (HBB.out.mono (by omega)))
   have hBt := HBL.out.lt
   have hwt := HBt.out.size
   by_cases hlt : i < ns.length
   ·obtain ⟨nb, no, hA, hnb, n1, n2⟩ := (H.out.up HBt.out).at_ hlt
    have hfac := ((H.out.up HBt.out).fac hlt)
    have hfm := HFM.out i hlt
    have hdd := HDS.out i hlt
    have HSU := Lib.hid (lnL_succ hlt)
    have HFC := Lib.hid (fun W (k : Below w.heap.size w W) => ((H.out.up k).fac hlt).at_)
    obtain ⟨n, hne⟩ : ∃ n, n = ng ns i := ⟨_, rfl⟩
    rw [← hne] at n1 n2 hfac hfm hdd HSU HFC
    obtain ⟨hf64, hfr⟩ := hfm
    have HFR := Lib.hid hfr
    have hd0 := hdd.1
    have hd1 : n.d ≤ 1099511627776 := by
     rcases Int.lt_or_le b 0 with h | h
     ·have := hdd.2.2 h; omega
     ·have := hdd.2.1 h; omega
    obtain ⟨W5, hW5⟩ : ∃ W5, W5 = wt.alloc (.cells #[.slice n.a n.l.length n.c, .int .i64 n.d] 97) := ⟨_, rfl⟩
    have HB5 := Lib.hid (show Below wt.heap.size wt W5 by rw [hW5]; exact (Below.refl _ _).alloc (Nat.le_refl _) _)
    have HN5 := Lib.hid (show BxI W5 wt.heap.size 97 #[.slice n.a n.l.length n.c, .int .i64 n.d] by rw [hW5]; exact BxI.new _ _ _)
    have KI := Lib.hid (itoa_any n.d W5 (by omega) (by omega) ((HE.out.up HBt.out).up HB5.out))
    have ib := itB_size n.d (by omega) (by omega)
    have HBL5 := Lib.hid (HBL.out.up HB5.out)
    rw [hA]
    clear hne hfac hfr hdd
    go_wp2_with fail
    rw [← hW5]
    have HW5 := Lib.hid hW5
    clear hW5 n1 n2
    refine KI.out.mono ?_
    rintro e w6 ⟨rfl, hx6⟩
    have HBL6 := Lib.hid (HBL5.out.up hx6)
    have HN6 := Lib.hid (HN5.out.up hx6)
    have hz5 := HB5.out.size
    have HB46 := Lib.hid (show Below B w4 w6 from (HBB.out.trans (HB5.out.mono (by omega))).trans (hx6.mono (by omega)))
    clear hx6 KI
    go_wp2_with fail
    rw [show (⟨#[110, 111, 103, 111, 111, 100, 32]⟩ : ByteArray) ++ itB n.d ++ ⟨#[58]⟩ = ngA n.d from rfl]
    refine (wr_any B B (HD ++ lnL ns i) (ngA n.d) w6 HBL6.out (by have := HLN.out; have h2 := ngA_size (d := n.d) (by omega) (by omega); omega)).mono ?_
    rintro e w7 ⟨rfl, hbl7, hbw7, hok7⟩
    have HBL7 := Lib.hid hbl7
    have HB47 := Lib.hid (show Below B w4 w7 from HB46.out.trans hbw7)
    have HN7 := Lib.hid (show BxI w7 wt.heap.size 97 #[.slice n.a n.l.length n.c, .int .i64 n.d] from oth_block hok7 HN6.out (by omega) (by decide))
    have m0 := HN7.out.cell 0 (.slice n.a n.l.length n.c) rfl
    have hml := HN7.out.lt
    clear hbl7 hbw7 hok7 ib
    go_wp2_with fail
    clear m0 hml
    go_loopw [41] (fun v41 wr => ∃ j : Nat, v41 = .int .i64 j ∧ j ≤ n.l.length ∧ Hid (Bsb B B (HD ++ lnL ns i ++ (ngA n.d).data.toList ++ fcL n.l j) wr) ∧ Hid (Below B w4 wr)) (fun v41 _ => n.l.length - (intOf v41).toNat)
    case atStart => exact ⟨0, rfl, by omega, Lib.hid (by simpa [fcL] using HBL7.out), HB47⟩
    case round =>
     clear HBL7
     obtain ⟨j, rfl, hj, HBL8, HB48⟩ := hrel
     obtain ⟨wu, rfl⟩ : ∃ wu : World, wu = wr := ⟨_, rfl⟩
     have HBu := Lib.hid (show Below w.heap.size w wu from HB4.out.trans (HB48.out.mono (by omega)))
     have hBu := HBL8.out.lt
     have HLL := Lib.hid (show (HD ++ lnL ns i ++ (ngA n.d).data.toList ++ fcL n.l j).length ≤ 70000 by
      have h1 := HLN.out
      have h2 := ngA_size (d := n.d) (by omega) (by omega)
      have h3 := fcL_len HFR.out j hj
      rw [List.length_append, List.length_append, sz_list]
      omega)
     by_cases hlt2 : j < n.l.length
     ·obtain ⟨fb, fo, hfA, hfb, hfc⟩ := (HFC.out wu HBu.out).at_ hlt2
      obtain ⟨c0, c1⟩ := hfc j hlt2
      have hbj := HFR.out j hlt2
      have HSF := Lib.hid (fcL_succ hlt2)
      obtain ⟨v, hv⟩ : ∃ v, v = fv n.l j := ⟨_, rfl⟩
      obtain ⟨x, hx⟩ : ∃ x, x = fx n.l j := ⟨_, rfl⟩
      rw [← hv, ← hx] at HSF hbj
      rw [← hv] at c0
      rw [← hx] at c1
      obtain ⟨W9, hW9⟩ : ∃ W9, W9 = wu.alloc (.cells #[.int .i64 v, .int .i64 x] 68) := ⟨_, rfl⟩
      have HB9 := Lib.hid (show Below wu.heap.size wu W9 by rw [hW9]; exact (Below.refl _ _).alloc (Nat.le_refl _) _)
      have HF9 := Lib.hid (show BxI W9 wu.heap.size 68 #[.int .i64 v, .int .i64 x] by rw [hW9]; exact BxI.new _ _ _)
      have HS9 := Lib.hid (show ∀ w' : World, Below W9.heap.size W9 w' → w'.cell? ⟨wu.heap.size, 0, none⟩ = some (.int .i64 v) ∧ w'.cell? ⟨wu.heap.size, 1, none⟩ = some (.int .i64 x) from fun w' k => ⟨(HF9.out.up k).cell 0 _ rfl, (HF9.out.up k).cell 1 _ rfl⟩)
      have KV := Lib.hid (fun W (k : Below W9.heap.size W9 W) => itoa_any v W (by omega) (by omega) (((HE.out.up HBu.out).up HB9.out).up k))
      have KX := Lib.hid (fun W (k : Below W9.heap.size W9 W) => itoa_any x W (by omega) (by omega) (((HE.out.up HBu.out).up HB9.out).up k))
      have iv := itB_size v (by omega) (by omega)
      have ix := itB_size x (by omega) (by omega)
      have HFS := Lib.hid (fcA_size (v := v) (x := x) (by omega) (by omega) (by omega) (by omega))
      have HBL9 := Lib.hid (HBL8.out.up HB9.out)
      have hz9 := HB9.out.size
      rw [hfA]
      clear hfc hv hx hbj
      go_wp2_with fail
      rw [← hW9]
      have HW9 := Lib.hid hW9
      clear hW9 c0 c1
      refine wp_region_G 7 (fun w' => w'.cell? ⟨wu.heap.size, 0, none⟩ = some (.int .i64 v) ∧ w'.cell? ⟨wu.heap.size, 1, none⟩ = some (.int .i64 x)) (by kernel_rfl) (HS9.out _ (by exact bel)) ?_
      intro hG0
      refine wpS1 0 hG0 ?_; intro hG1; clear hG0
      refine wpS2 1 hG1 ?_; intro hG2; clear hG1
      refine wpS1 5 hG2 ?_; intro hG3; clear hG2
      refine wpS2 6 hG3 ?_; intro hG4; clear hG3
      refine wpAnyG_ready (rs := [2]) (by kernel_rfl) (by simp) (AllG.cons rfl hG4 (fun K hK => ?_) AllG.nil)
      (go_simp; go_at_call 44; refine (KV.out _ (by exact bel)).mono ?_; rintro e wa ⟨rfl, hba⟩; have HBa := Lib.hid (show Below W9.heap.size W9 wa from below_step hba (show W9.heap.size ≤ _ by simp) (show Below W9.heap.size W9 _ by exact bel)); clear hba)
      refine hK.out _ _ (Or.inr (HS9.out _ HBa.out)) (fun hG5 => wpN ?_); clear hK hG4
      refine wpS1 3 hG5 ?_; intro hG6; clear hG5
      refine wpS1 4 hG6 ?_; intro hG7; clear hG6
      refine wpAnyG_ready (rs := [7]) (by kernel_rfl) (by simp) (AllG.cons rfl hG7 (fun K hK => ?_) AllG.nil)
      (go_simp; go_at_call 44; refine (KX.out _ HBa.out).mono ?_; rintro e wb ⟨rfl, hbb⟩; have HBb := Lib.hid (show Below W9.heap.size W9 wb from HBa.out.trans (hbb.mono HBa.out.size)); clear hbb)
      refine hK.out _ _ (Or.inl rfl) (fun hG8 => wpN ?_); clear hK hG7
      refine wpS1 8 hG8 ?_; intro hG9; clear hG8
      refine wpAnyG_ready (rs := [9]) (by kernel_rfl) (by simp) (AllG.cons rfl hG9 (fun K hK => ?_) AllG.nil)
      (go_simp; go_at_call 43; rw [show (⟨#[32]⟩ : ByteArray) ++ itB v ++ ⟨#[61]⟩ ++ itB x = fcA v x from rfl]; refine (wr_any B B (HD ++ lnL ns i ++ (ngA n.d).data.toList ++ fcL n.l j) (fcA v x) _ (HBL9.out.up HBb.out) (by have h1 := HLL.out; have h2 := HFS.out; omega)).mono ?_; rintro e wc ⟨rfl, hblc, hbwc, _⟩; have HBLc := Lib.hid (show Bsb B B (HD ++ lnL ns i ++ (ngA n.d).data.toList ++ fcL n.l (j + 1)) wc by rw [HSF.out, ← List.append_assoc]; exact hblc); have HB4c := Lib.hid (show Below B w4 wc from (HB48.out.trans ((HB9.out.trans (HBb.out.mono hz9)).mono (by omega))).trans hbwc); clear hblc hbwc)
      refine hK.out _ _ (Or.inl rfl) (fun hG10 => wpN ?_); clear hK hG9
      refine wpAnyG_done (by kernel_rfl) ?_ _; clear hG10
      go_wp2
      go_roundw
      case rel => exact ⟨j + 1, by go_num, by omega, HBLc, HB4c⟩
      case measure => simp [intOf]; omega
     ·obtain rfl : j = n.l.length := by omega
      go_wp2_with fail
      refine (wr_any B B (HD ++ lnL ns i ++ (ngA n.d).data.toList ++ fcL n.l n.l.length) ⟨#[10]⟩ wu HBL8.out (by have := HLL.out; show _ + 1 ≤ _; omega)).mono ?_
      rintro e wd ⟨rfl, hbld, hbwd, _⟩
      obtain ⟨l9, hl9⟩ : ∃ l9, l9 = HD ++ lnL ns (i + 1) := ⟨_, rfl⟩
      have HBLd := Lib.hid (show Bsb B B l9 wd by rw [hl9, HSU.out]; unfold ngL; rw [← List.append_assoc, ← List.append_assoc, ← List.append_assoc]; exact hbld)
      have hl9b : l9.length ≤ 70001 := by
       have h1 := HLL.out
       rw [hl9, HSU.out]; unfold ngL
       rw [← List.append_assoc, ← List.append_assoc, ← List.append_assoc, List.length_append]
       simp only [List.length_singleton]
       omega
      have HL9 := Lib.hid hl9
      have HB4d := Lib.hid (show Below B w4 wd from HB48.out.trans hbwd)
      have HBd := Lib.hid (show Below w.heap.size w wd from HB4.out.trans (HB4d.out.mono (by omega)))
      clear hbld hbwd hl9
      go_wp2_with fail
      refine (wlen_any B B l9 wd HBLd.out).mono ?_
      rintro e we ⟨rfl, rfl⟩
      by_cases hbig : 65536 < l9.length
      ·have e5 : decide ((65536 : Int) < l9.length) = true := decide_eq_true (by omega)
       go_wp2
       refine bodyPost_ret (v := .tuple #[.string ⟨#[]⟩, .iface 49 (.int .i64 5)]) (by simp [results, Tryz.results19, go_sem]) rfl ⟨.inr ⟨rfl, by have h1 : (lnL ns (i + 1)).length ≤ (lnL ns ns.length).length := lnL_le (by omega); have h2 := HL9.out; have h3 : (certL b ns).length = (HD ++ lnL ns ns.length).length := (by unfold certL; rw [HHDE.out]); rw [h3, List.length_append]; rw [h2, List.length_append] at hbig; omega⟩, HBd.out⟩
      ·have e5 : decide ((65536 : Int) < l9.length) = false := decide_eq_false (by omega)
       have HLN9 := Lib.hid (show (HD ++ lnL ns (i + 1)).length ≤ 65536 by rw [← HL9.out]; omega)
       go_wp2
       go_roundw
       case rel => exact ⟨i + 1, by go_num, by omega, HLN9, Lib.hid (by rw [← HL9.out]; exact HBLd.out), HB4d⟩
       case measure => simp [intOf]; omega
   ·obtain rfl : i = ns.length := by omega
    have HCL := Lib.hid (show certL b ns = HD ++ lnL ns ns.length by unfold certL; rw [HHDE.out])
    go_wp2_with fail
    refine (wstr_any B B (HD ++ lnL ns ns.length) wt HBL.out).mono ?_
    rintro e wd ⟨rfl, hbwd⟩
    have HBd := Lib.hid (show Below w.heap.size w wd from HBt.out.trans (hbwd.mono (by omega)))
    clear hbwd
    go_wp2
    refine bodyPost_ret (v := .tuple #[.string ⟨(HD ++ lnL ns ns.length).toArray⟩, .nilIface]) (by simp [results, Tryz.results19, go_sem]) rfl ⟨.inl ⟨by rw [HCL.out], by rw [HCL.out]; exact HLN.out⟩, HBd.out⟩
end Go.Proofs.YtlkebhiaimijiaaGreatDoor

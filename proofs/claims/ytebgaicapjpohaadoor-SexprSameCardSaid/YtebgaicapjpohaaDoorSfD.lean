/- sexpr: Valid, write, Write at a list of leaves, walked. -/
import Derived.Test.YtebgaicapjpohaaDoorSfC
import Derived.Test.YtebgaicapjpohaaDoorOwn
import Derived.Lib.AppendIntMem
import Derived.Lib.LaidTab
namespace Go.Proofs.YtebgaicapjpohaaDoor
set_option linter.unusedSimpArgs false
set_option linter.unusedVariables false
open Go Go.RowKit Go.Lib
set_option linter.unusedVariables false

/-- The text of a leaf. -/
def leafT : Sx → List UInt8
  | .mk k v _ _ t _ => if k = 1 then t else Lib.itoa v
/-- The table of powers of ten. -/
structure EnvS (w : World) : Prop where
  tab : Lib.TabIs Tryd.prog w "internal/strconv.uint64pow10" .u64 Lib.pow10Tab
theorem EnvS.up {w w' : World} (h : EnvS w) (hb : Below w.heap.size w w') : EnvS w' := ⟨tabBelow_of_tabIs h.tab w' hb⟩
theorem itoa_s (n : Int) (w : World) (h0 : -9223372036854775808 ≤ n) (h1 : n ≤ 9223372036854775807) (hE : EnvS w) :
    Calls Tryd.prog 24 #[.int .i64 n] w fun e w' => e = .returned (.string (bs (Lib.itoa n))) ∧ Below w.heap.size w w' :=
  (Tryd.strconv_Itoa n h0 h1 w hE.tab).mono fun e w' ⟨he, k, os, hw⟩ => ⟨he, by rw [hw]; exact below_grow _ _ (Nat.le_refl _) _ _⟩

set_option maxHeartbeats 4000000 in
theorem valid_call (l c : Int) (kids : List Sx) (A : Option Addr) (cap : Nat) (w : World) (hx : ∀ j, j < kids.length → LeafOk (sx kids j)) (hr : RowAt w (fun _ => False) A 0 kids) (hn : kids.length < 4096) :
    Calls Tryd.prog 17 #[.agg #[.int .i64 3, .int .i64 0, .int .i64 l, .int .i64 c, .string (bs []), .slice A kids.length cap]] w fun e w' => e = .returned (.bool true) ∧ Below w.heap.size w w' := by
  have KV := Lib.hid (fun Nb n W hr hb hn => valid_list l c kids A cap Nb n W hx hr hb hn)
  have HR := Lib.hid hr
  clear hr hx
  go_enter Tryd.func17, Tryd.ntmps17
  go_wp2_with fail
  obtain ⟨w2, hw2⟩ : ∃ w2 : World, (w.alloc (Obj.cells #[.int .i64 3, .int .i64 0, .int .i64 l, .int .i64 c, .string (bs []), .slice A kids.length cap] 34)).alloc (Obj.cells #[.int .i64 0] 3) = w2 := ⟨_, rfl⟩
  have hb2 : Below w.heap.size w w2 := by rw [← hw2]; repeat (first | exact Below.refl _ _ | refine below_dN ?_ _ | refine Below.drew ?_ | refine Below.alloc ?_ (by first | omega | (simp; done) | (simp; omega)) _ | refine Below.setCell ?_ (by first | omega | (simp; done) | (simp; omega)) _ | refine below_step (by assumption) (by first | omega | (simp; done) | (simp; omega)) ?_)
  have HN := Lib.hid (show BxI w2 (w.heap.size + 1) 3 #[.int .i64 ((0 : Nat) : Int)] by rw [← hw2]; exact box2 _ _ _ _)
  have HR2 := Lib.hid (RowAt.move (w' := w2) (bad' := fun g => g = w.heap.size + 1) ⟨hb2.size, fun b hb _ => hb2.block b hb, fun b hb e => by omega⟩ _ _ _ HR.out)
  rw [hw2]
  clear hw2
  refine (KV.out (w.heap.size + 1) 0 w2 HR2.out HN.out (by omega)).mono ?_
  rintro e w3 ⟨rfl, hx3, hk3⟩
  have HK3 := Lib.hid hk3
  clear hx3 hk3
  go_wp2
  refine bodyPost_ret (v := .bool true) (by simp [results, Tryd.results17, go_sem, ↓IntWalk.iteOmega, *]) rfl ⟨rfl, hb2.trans (HK3.out.below (fun b hb e => by omega) hb2.size)⟩

set_option maxHeartbeats 4000000 in
theorem write_leaf (k v l c : Int) (t : List UInt8) (A : Option Addr) (cap : Nat) (w : World) (hx : LeafOk (.mk k v l c t [])) (hE : EnvS w) :
    Calls Tryd.prog 18 #[.agg #[.int .i64 k, .int .i64 v, .int .i64 l, .int .i64 c, .string (bs t), .slice A 0 cap]] w fun e w' => e = .returned (.string (bs (leafT (.mk k v l c t [])))) ∧ Below w.heap.size w w' := by
  rcases hx with ⟨_, ⟨rfl, rfl, hl, hN, htl⟩ | ⟨rfl, rfl, h1, h2⟩⟩
  · clear hl hN hE
    go_enter Tryd.func18, Tryd.ntmps18
    go_wp2
    refine bodyPost_ret (v := .string (bs t)) (by simp [results, Tryd.results18, go_sem, ↓IntWalk.iteOmega, *]) rfl ⟨rfl, by repeat (first | exact Below.refl _ _ | refine below_dN ?_ _ | refine Below.drew ?_ | refine Below.alloc ?_ (by first | omega | (simp; done) | (simp; omega)) _ | refine Below.setCell ?_ (by first | omega | (simp; done) | (simp; omega)) _ | refine below_step (by assumption) (by first | omega | (simp; done) | (simp; omega)) ?_)⟩
  · have KI := Lib.hid (fun W hE => itoa_s v W (by omega) (by omega) hE)
    have HE := Lib.hid hE
    clear hE
    go_enter Tryd.func18, Tryd.ntmps18
    go_wp2_with fail
    refine (KI.out _ (HE.out.up (by repeat (first | exact Below.refl _ _ | refine below_dN ?_ _ | refine Below.drew ?_ | refine Below.alloc ?_ (by first | omega | (simp; done) | (simp; omega)) _ | refine Below.setCell ?_ (by first | omega | (simp; done) | (simp; omega)) _ | refine below_step (by assumption) (by first | omega | (simp; done) | (simp; omega)) ?_)))).mono ?_
    rintro e w2 ⟨rfl, hb2⟩
    have HB2 := Lib.hid hb2
    clear hb2
    go_wp2
    refine bodyPost_ret (v := .string (bs (Lib.itoa v))) (by simp [results, Tryd.results18, go_sem, ↓IntWalk.iteOmega, *]) rfl ⟨rfl, below_step HB2.out (by simp) (by repeat (first | exact Below.refl _ _ | refine below_dN ?_ _ | refine Below.drew ?_ | refine Below.alloc ?_ (by first | omega | (simp; done) | (simp; omega)) _ | refine Below.setCell ?_ (by first | omega | (simp; done) | (simp; omega)) _ | refine below_step (by assumption) (by first | omega | (simp; done) | (simp; omega)) ?_))⟩
theorem undSt : Tryd.prog.underlying 25 = some (.slice 9) := by kernel_rfl
theorem infoSt : (Tryd.prog.info? 9).map (fun i => (i.zero, i.size, i.bytes)) = some (some (.string ByteArray.empty), 1, 16) := by kernel_rfl
/-- The texts of the first j leaves, as cells. -/
def wsL (kids : List Sx) (j : Nat) : List Value := (kids.take j).map fun x => .string (bs (leafT x))
theorem wsL_succ {kids : List Sx} {j : Nat} (h : j < kids.length) : wsL kids (j + 1) = wsL kids j ++ [.string (bs (leafT (sx kids j)))] := by
  unfold wsL
  rw [List.take_succ_eq_append_getElem h, List.map_append, List.map_singleton]
  unfold sx
  simp [List.getD, h]

set_option maxRecDepth 20000 in
set_option maxHeartbeats 4000000 in
theorem write_list (l c : Int) (kids : List Sx) (A : Option Addr) (cap : Nat) (w : World) (hx : ∀ j, j < kids.length → LeafOk (sx kids j)) (hr : RowAt w (fun _ => False) A 0 kids) (hn : kids.length < 4096) (h0 : kids ≠ []) (hE : EnvS w) (hj : (Lib.join (kids.map leafT) [32]).length ≤ 1000000) :
    Calls Tryd.prog 18 #[.agg #[.int .i64 3, .int .i64 0, .int .i64 l, .int .i64 c, .string (bs []), .slice A kids.length cap]] w fun e w' => e = .returned (.string (bs (40 :: (Lib.join (kids.map leafT) [32] ++ [41])))) ∧ Below w.heap.size w w' := by
  have KW := Lib.hid (fun k v l c t A cap W hx hE => write_leaf k v l c t A cap W hx hE)
  have HR := Lib.hid hr
  have HE := Lib.hid hE
  obtain ⟨infT, hiT, ez0, ez1, ez2⟩ := info_parts infoSt
  clear hr hE
  go_enter Tryd.func18, Tryd.ntmps18
  go_wp2_with fail
  go_loopw [3, 20] (fun v3 v wr => ∃ (j : Nat) (A' : Option Addr) (c' : Nat), j ≤ kids.length ∧ v = .int .i64 j ∧ v3 = .slice A' j c' ∧ Hid (wr.ownsRow w.heap.size 9 1 (.slice A' j c') j (wsL kids j)) ∧ Hid (Below w.heap.size w wr)) (fun _ v _ => kids.length - (RowKit.intOf v).toNat)
  case atStart => exact ⟨0, none, 0, Nat.zero_le _, rfl, rfl, Lib.hid ⟨rfl, .inl ⟨rfl, rfl⟩⟩, Lib.hid (by repeat (first | exact Below.refl _ _ | refine below_dN ?_ _ | refine Below.drew ?_ | refine Below.alloc ?_ (by first | omega | (simp; done) | (simp; omega)) _ | refine Below.setCell ?_ (by first | omega | (simp; done) | (simp; omega)) _ | refine below_step (by assumption) (by first | omega | (simp; done) | (simp; omega)) ?_))⟩
  case round =>
    obtain ⟨j, A', c', hj1, rfl, rfl, HO, HB⟩ := hrel
    by_cases hlt : j < kids.length
    · have hd1 : decide ((j : Int) < (kids.length : Int)) = true := by simp; omega
      obtain ⟨b, off, vs, rfl, h2, h3, h4, h5⟩ := RowAt.get _ _ _ _ (RowAt.move (Moves.up HB.out) _ _ _ HR.out) hlt
      have hlf := hx j hlt
      obtain ⟨kk, vv, ll, cc, tt, hxe⟩ := leaf_eta hlf
      have HSU := Lib.hid (wsL_succ hlt)
      rw [hxe] at h4 hlf HSU
      unfold SxIs at h4
      obtain ⟨A2, cap2, hvs, _, _, _⟩ := h4
      subst hvs
      have d0 : wr.cell? ⟨b, off + j * 6, none⟩ = some (.int .i64 kk) := by have := h5 0 (by decide); simpa using this
      have d1 : wr.cell? ⟨b, off + j * 6 + 1, none⟩ = some (.int .i64 vv) := by have := h5 1 (by decide); simpa using this
      have d2 : wr.cell? ⟨b, off + j * 6 + 2, none⟩ = some (.int .i64 ll) := by have := h5 2 (by decide); simpa using this
      have d3 : wr.cell? ⟨b, off + j * 6 + 3, none⟩ = some (.int .i64 cc) := by have := h5 3 (by decide); simpa using this
      have d4 : wr.cell? ⟨b, off + j * 6 + 4, none⟩ = some (.string (bs tt)) := by have := h5 4 (by decide); simpa using this
      have d5 : wr.cell? ⟨b, off + j * 6 + 5, none⟩ = some (.slice A2 0 cap2) := by have := h5 5 (by decide); simpa using this
      have HL2 := Lib.hid hlf
      clear h5 hlf hxe
      go_wp2_with (refine wpList_store6 (by rfl) 34 _ _ (by rfl) wr.heap.size 0 (.int .i64 kk) (.int .i64 vv) (.int .i64 ll) (.int .i64 cc) (.string (bs tt)) (.slice A2 0 cap2) (by rfl) (by rfl) (there_blk (heap_alloc_new _ _) (Nat.le_refl 6)) qsizeSx (six_one rfl rfl rfl rfl rfl rfl) ?_; intro wx HWX; have HBX := Lib.hid (show Below wr.heap.size wr wx by rw [HWX.out]; refine below_set6 ?_ (Nat.le_refl _); repeat (first | exact Below.refl _ _ | refine below_dN ?_ _ | refine Below.drew ?_ | refine Below.alloc ?_ (by first | omega | (simp; done) | (simp; omega)) _ | refine Below.setCell ?_ (by first | omega | (simp; done) | (simp; omega)) _ | refine below_step (by assumption) (by first | omega | (simp; done) | (simp; omega)) ?_)); have HX := Lib.hid (show BxI wx wr.heap.size 34 #[.int .i64 kk, .int .i64 vv, .int .i64 ll, .int .i64 cc, .string (bs tt), .slice A2 0 cap2] by rw [HWX.out]; exact BxI.set6 (BxI.new _ _ _)); have e0 := HX.out.cell 0 _ rfl; have e1 := HX.out.cell 1 _ rfl; have e2 := HX.out.cell 2 _ rfl; have e3 := HX.out.cell 3 _ rfl; have e4 := HX.out.cell 4 _ rfl; have e5 := HX.out.cell 5 _ rfl)
      have HWx := Lib.hid (HB.out.trans (HBX.out.mono HB.out.size))
      refine (KW.out kk vv ll cc tt A2 cap2 wx HL2.out (HE.out.up HWx.out)).mono ?_
      rintro e w3 ⟨rfl, hb3⟩
      have HB3 := Lib.hid (HWx.out.trans (hb3.mono HWx.out.size))
      have HO3 := Lib.hid (own_below (own_below HO.out HBX.out) hb3)
      have hz3 := HB3.out.size
      clear hb3 e0 e1 e2 e3 e4 e5 d0 d1 d2 d3 d4 d5
      go_wp2_with (at_builtin; refine wpList_push rfl _ _ 25 rfl w.heap.size 9 infT (.string ByteArray.empty) 1 16 undSt hiT ez0 ez1 ez2 rfl (by decide) (by decide) (.slice A' j c') j (wsL kids j) rfl (HO3.out.alloc _) w3.heap.size 9 [.string (bs (leafT (.mk kk vv ll cc tt [])))] rfl rfl (heap_alloc_new _ _) (one_one rfl) (by omega) (by first | omega | (simp; omega)) (B := w.heap.size) (W := w) (HB3.out.alloc hz3 _) (Nat.le_refl _) ?_; intro v' w8 hown' hgrow hat hbw8; obtain ⟨A8, c8, rfl⟩ := own_shape hown'; have Hown := Lib.hid hown'; have Hb8 := Lib.hid hbw8; clear hown' hgrow hat hbw8)
      go_roundw
      case rel => exact ⟨j + 1, A8, c8, by omega, rfl, rfl, Lib.hid (by rw [HSU.out]; exact Hown.out), Hb8⟩
      case measure => simp [RowKit.intOf]; omega
    · obtain rfl : j = kids.length := by omega
      have hpos : 0 < kids.length := List.length_pos_iff.2 h0
      obtain ⟨g, rfl, hg1, hg2, hg3⟩ := own_frozen HO.out hpos
      have hcc : kids.length ≤ c' := by
        rcases HO.out.2 with ⟨h1, _⟩ | ⟨g', cap', cur, h1, _, _, h2, _⟩
        · cases h1
        · injection h1 with _ _ h3; omega
      have hmap : (kids.map fun x => bs (leafT x)).map (·.data.toList) = kids.map leafT := by
        rw [List.map_map]; rfl
      have hlen : (kids.map fun x => bs (leafT x)).length = kids.length := List.length_map ..
      have KJ := Lib.hid (Tryd.strings_Join g 0 c' (kids.map fun x => bs (leafT x)) ⟨#[32]⟩ wr (fun i x hi => by
        have e : (wsL kids kids.length)[i]? = some (.string x) := by
          unfold wsL
          rw [List.take_length, show (fun x => Value.string (bs (leafT x))) = Value.string ∘ (fun x => bs (leafT x)) from rfl, ← List.map_map, List.getElem?_map, hi]
          rfl
        have := own_cell HO.out e
        rw [Nat.zero_add]
        exact this) hg2 (by rw [hlen]; omega) (by rw [hlen]; exact hcc) (by rw [hmap]; show (Lib.join (kids.map leafT) [32]).length ≤ _; omega))
      rw [hlen, hmap] at KJ
      obtain ⟨J, hJ⟩ : ∃ J : ByteArray, bs (Lib.join (kids.map leafT) [32]) = J := ⟨_, rfl⟩
      have KJ2 := Lib.hid (show Calls Tryd.prog 25 #[.slice (some ⟨g, 0, none⟩) kids.length c', .string ⟨#[32]⟩] wr fun e w' => e = .returned (.string J) ∧ Below wr.heap.size wr w' by rw [← hJ]; exact KJ.out)
      have hJs : J.size ≤ 1000000 := by rw [← hJ, bs_size]; exact hj
      have HJ := Lib.hid hJ
      clear KJ hJ hmap hlen hg3 hj
      go_wp2_with fail
      refine KJ2.out.mono ?_
      rintro e w4 ⟨rfl, hb4⟩
      have HB4 := Lib.hid (HB.out.trans (hb4.mono HB.out.size))
      clear hb4
      go_wp2
      refine bodyPost_ret (v := .string (⟨#[40]⟩ ++ J ++ ⟨#[41]⟩)) (by simp [results, Tryd.results18, go_sem, ↓IntWalk.iteOmega, *]) rfl ⟨?_, HB4.out⟩
      rw [← HJ.out]
      have e1 : (⟨#[40]⟩ : ByteArray) = bs [40] := rfl
      have e2 : (⟨#[41]⟩ : ByteArray) = bs [41] := rfl
      rw [e1, e2, bs_app, bs_app]
      simp
set_option maxHeartbeats 4000000 in
theorem write_call (l c : Int) (kids : List Sx) (A : Option Addr) (cap : Nat) (w : World) (hx : ∀ j, j < kids.length → LeafOk (sx kids j)) (hr : RowAt w (fun _ => False) A 0 kids) (hn : kids.length < 4096) (h0 : kids ≠ []) (hE : EnvS w) (hj : (Lib.join (kids.map leafT) [32]).length ≤ 1000000) :
    Calls Tryd.prog 13 #[.agg #[.int .i64 3, .int .i64 0, .int .i64 l, .int .i64 c, .string (bs []), .slice A kids.length cap]] w fun e w' => e = .returned (.tuple #[.string (bs (40 :: (Lib.join (kids.map leafT) [32] ++ [41]))), .nilIface]) ∧ Below w.heap.size w w' := by
  have KV := Lib.hid (fun W hr => valid_call l c kids A cap W hx hr hn)
  have KW := Lib.hid (fun W hr hE => write_list l c kids A cap W hx hr hn h0 hE hj)
  have HR := Lib.hid hr
  have HE := Lib.hid hE
  obtain ⟨T, hT⟩ : ∃ T, bs (40 :: (Lib.join (kids.map leafT) [32] ++ [41])) = T := ⟨_, rfl⟩
  rw [hT] at KW
  rw [hT]
  clear hr hE hx hj hT
  go_enter Tryd.func13, Tryd.ntmps13
  go_wp2_with fail
  obtain ⟨wa, hwa⟩ : ∃ wa : World, w.alloc (Obj.cells #[.int .i64 3, .int .i64 0, .int .i64 l, .int .i64 c, .string (bs []), .slice A kids.length cap] 34) = wa := ⟨_, rfl⟩
  have hba : Below w.heap.size w wa := by rw [← hwa]; repeat (first | exact Below.refl _ _ | refine below_dN ?_ _ | refine Below.drew ?_ | refine Below.alloc ?_ (by first | omega | (simp; done) | (simp; omega)) _ | refine Below.setCell ?_ (by first | omega | (simp; done) | (simp; omega)) _ | refine below_step (by assumption) (by first | omega | (simp; done) | (simp; omega)) ?_)
  have HX := Lib.hid (show BxI wa w.heap.size 34 #[.int .i64 3, .int .i64 0, .int .i64 l, .int .i64 c, .string (bs []), .slice A kids.length cap] by rw [← hwa]; exact BxI.new _ _ _)
  have HA := Lib.hid hba
  rw [hwa]
  clear hwa hba
  refine (KV.out wa (RowAt.move (Moves.up HA.out) _ _ _ HR.out)).mono ?_
  rintro e w2 ⟨rfl, hb2⟩
  have HB2 := Lib.hid (HA.out.trans (hb2.mono HA.out.size))
  have HX2 := Lib.hid (HX.out.up hb2)
  have d0 := HX2.out.cell 0 _ rfl
  have d1 := HX2.out.cell 1 _ rfl
  have d2 := HX2.out.cell 2 _ rfl
  have d3 := HX2.out.cell 3 _ rfl
  have d4 := HX2.out.cell 4 _ rfl
  have d5 := HX2.out.cell 5 _ rfl
  clear hb2
  go_wp2_with fail
  refine (KW.out w2 (RowAt.move (Moves.up HB2.out) _ _ _ HR.out) (HE.out.up HB2.out)).mono ?_
  rintro e w3 ⟨rfl, hb3⟩
  have HB3 := Lib.hid (HB2.out.trans (hb3.mono HB2.out.size))
  clear hb3 d0 d1 d2 d3 d4 d5
  go_wp2
  refine bodyPost_ret (v := .tuple #[.string T, .nilIface]) (by simp [results, Tryd.results13, go_sem, ↓IntWalk.iteOmega, *]) rfl ⟨rfl, HB3.out⟩
end Go.Proofs.YtebgaicapjpohaaDoor

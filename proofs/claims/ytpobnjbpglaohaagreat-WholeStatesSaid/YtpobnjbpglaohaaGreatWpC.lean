/- pack.New, walked. -/
import Derived.Test.YtpobnjbpglaohaaGreatWgA
import Derived.Test.YtpobnjbpglaohaaGreatWpB
import Derived.Deep.DeepCutAuto
import Derived.Deep.CutBlock
namespace Go.Proofs.YtpobnjbpglaohaaGreat
set_option linter.unusedSimpArgs false
set_option linter.unusedVariables false
open Go Go.RowKit
set_option linter.unusedVariables false

/-- The cells of fields. -/
def fldC (F : List Fld) : List Value := F.flatMap fun f => [.int .i64 f.word, .int .i64 f.bit, .int .i64 f.width, .int .i64 f.size]
theorem fldC_app (a b : List Fld) : fldC (a ++ b) = fldC a ++ fldC b := by unfold fldC; rw [List.flatMap_append]
theorem fldC_len : ∀ (F : List Fld), (fldC F).length = F.length * 4
  | [] => rfl
  | f :: r => by
    have := fldC_len r
    unfold fldC at *
    rw [List.flatMap_cons, List.length_append, this]
    simp
    omega
def fld (F : List Fld) (i : Nat) : Fld := F.getD i ⟨0, 0, 0, 0⟩
theorem fldC_get : ∀ (F : List Fld) (i : Nat), i < F.length → (fldC F)[i * 4]? = some (.int .i64 (fld F i).word) ∧ (fldC F)[i * 4 + 1]? = some (.int .i64 (fld F i).bit) ∧ (fldC F)[i * 4 + 2]? = some (.int .i64 (fld F i).width) ∧ (fldC F)[i * 4 + 3]? = some (.int .i64 (fld F i).size)
  | f :: r, 0, _ => ⟨rfl, rfl, rfl, rfl⟩
  | f :: r, i + 1, h => by
    obtain ⟨h0, h1, h2, h3⟩ := fldC_get r i (by simpa using h)
    have e : fldC (f :: r) = [.int .i64 f.word, .int .i64 f.bit, .int .i64 f.width, .int .i64 f.size] ++ fldC r := rfl
    have g : ∀ j, (fldC (f :: r))[(i + 1) * 4 + j]? = (fldC r)[i * 4 + j]? := fun j => by
      rw [e, List.getElem?_append_right (by simp; omega)]
      congr 1
      simp
      omega
    exact ⟨(g 0).trans h0, (g 1).trans h1, (g 2).trans h2, (g 3).trans h3⟩
/-- The fields of a packer lie in row A. -/
def FldsAt (w : World) (bad : Nat → Prop) (A : Option Addr) (F : List Fld) : Prop := 0 < F.length → ∃ b off, A = some ⟨b, off, none⟩ ∧ b < w.heap.size ∧ ¬ bad b ∧ ∀ i, i < F.length →
  w.cell? ⟨b, off + i * 4, none⟩ = some (.int .i64 (fld F i).word) ∧ w.cell? ⟨b, off + i * 4 + 1, none⟩ = some (.int .i64 (fld F i).bit) ∧ w.cell? ⟨b, off + i * 4 + 2, none⟩ = some (.int .i64 (fld F i).width) ∧ w.cell? ⟨b, off + i * 4 + 3, none⟩ = some (.int .i64 (fld F i).size)
/-- A packer. -/
def PkAt (w : World) (bad : Nat → Prop) (p : Nat) (F : List Fld) (n : Nat) : Prop := ∃ A c, BxI w p 90 #[.slice A F.length c, .int .i64 n] ∧ ¬ bad p ∧ F.length ≤ c ∧ FldsAt w bad A F
theorem FldsAt.move {w w' : World} {bad bad' : Nat → Prop} {A : Option Addr} {F : List Fld} (h : FldsAt w bad A F) (m : Moves w w' bad bad') : FldsAt w' bad' A F := fun h0 => by
  obtain ⟨b, off, rfl, h1, h2, h3⟩ := h h0
  refine ⟨b, off, rfl, Nat.lt_of_lt_of_le h1 m.size, fun h => h2 (m.bad b h1 h), fun i hi => ?_⟩
  obtain ⟨a0, a1, a2, a3⟩ := h3 i hi
  exact ⟨(m.cell (p := ⟨b, _, none⟩) h1 h2).trans a0, (m.cell (p := ⟨b, _, none⟩) h1 h2).trans a1, (m.cell (p := ⟨b, _, none⟩) h1 h2).trans a2, (m.cell (p := ⟨b, _, none⟩) h1 h2).trans a3⟩
theorem PkAt.move {w w' : World} {bad bad' : Nat → Prop} {p n : Nat} {F : List Fld} (h : PkAt w bad p F n) (m : Moves w w' bad bad') : PkAt w' bad' p F n := by
  obtain ⟨A, c, h1, h2, h3, h4⟩ := h
  exact ⟨A, c, (m.block p h1.lt h2).trans h1, fun h => h2 (m.bad p h1.lt h), h3, h4.move m⟩

def natL (l : List Int) : List Nat := l.map Int.toNat
theorem wrap_pow {k m : Nat} (h : k ≤ 6) (hm : 2 ^ k = m) : wrap64 (2 ^ k) = (m : Int) ∧ m ≤ 64 := by
  subst hm
  have hc : k = 0 ∨ k = 1 ∨ k = 2 ∨ k = 3 ∨ k = 4 ∨ k = 5 ∨ k = 6 := by omega
  rcases hc with rfl | rfl | rfl | rfl | rfl | rfl | rfl <;> simp [wrap64]
theorem wd_more {k : Nat} {n : Int} (hk : k ≤ 6) (hn : n ≤ 64) (h : wrap64 (2 ^ k) < n) (HK : ∀ i, i < k → 2 ^ i < n.toNat) : k < 6 ∧ ∀ i, i < k + 1 → 2 ^ i < n.toNat := by
  obtain ⟨h1, h2⟩ := wrap_pow hk rfl
  rw [h1] at h
  have h3 : 2 ^ k < n.toNat := by
    generalize 2 ^ k = m at h
    omega
  refine ⟨?_, fun i hi => ?_⟩
  · rcases Nat.lt_or_ge k 6 with h4 | h4
    · exact h4
    · have : k = 6 := by omega
      subst this
      have : (2 : Nat) ^ 6 = 64 := by decide
      omega
  · by_cases e : i = k
    · subst e; exact h3
    · exact HK i (by omega)
theorem wd_stop {k : Nat} {n : Int} (hk : k ≤ 6) (hn1 : 1 ≤ n) (hn : n ≤ 64) (h : ¬ wrap64 (2 ^ k) < n) (HK : ∀ i, i < k → 2 ^ i < n.toNat) : wdN n.toNat = k := by
  obtain ⟨h1, h2⟩ := wrap_pow hk rfl
  rw [h1] at h
  refine wdN_of (by omega) ?_ HK
  generalize 2 ^ k = m at h
  omega
theorem natL_drop {l : List Int} {j : Nat} (h : j < l.length) : (natL l).drop j = (nth l j).toNat :: (natL l).drop (j + 1) := by
  have h2 : j < (natL l).length := by unfold natL; simpa using h
  rw [List.drop_eq_getElem_cons h2]
  congr 1
  have h3 : (natL l)[j]? = some (nth l j).toNat := by
    unfold natL nth
    rw [List.getElem?_map, List.getElem?_eq_getElem h]
    simp [List.getD, h]
  rw [List.getElem?_eq_getElem h2] at h3
  exact Option.some.inj h3
theorem mkF_cons (n : Nat) (r : List Nat) (w b : Nat) : mkF (n :: r) w b = if 64 < b + wdN n then (⟨w, 0, wdN n, n⟩ :: (mkF r (w + 1) (wdN n)).1, (mkF r (w + 1) (wdN n)).2)
    else (⟨w - 1, b, wdN n, n⟩ :: (mkF r w (b + wdN n)).1, (mkF r w (b + wdN n)).2) := rfl
theorem own_frozen' {w : World} {B s n m : Nat} {e : TypeId} {A : Option Addr} {c : Nat} {xs : List Value} (h : w.ownsRow B e s (.slice A m c) n xs) (hn : 0 < n) : ∃ g, A = some ⟨g, 0, none⟩ ∧ B ≤ g ∧ g < w.heap.size ∧ ∀ k, w.frozen? ⟨g, k, none⟩ = false := by
  rcases h.2 with ⟨h0, h1⟩ | ⟨g, cap, cur, h0, hb, hg, _⟩
  · omega
  · injection h0 with h0 _ _
    exact ⟨g, h0, hb, (Array.getElem?_eq_some_iff.1 hg).1, fun k => by simp [World.frozen?, hg]⟩
theorem qundFl : Tryz.prog.underlying 88 = some (.slice 92) := by kernel_rfl
theorem qinfoFl : (Tryz.prog.info? 92).map (fun i => (i.zero, i.size, i.bytes)) = some (some (.agg #[.int .i64 0, .int .i64 0, .int .i64 0, .int .i64 0]), 4, 32) := by kernel_rfl

set_option maxRecDepth 20000 in
set_option maxHeartbeats 4000000 in
theorem pnew_any (l : List Int) (A : Option Addr) (c : Nat) (w : World) (hl : IntsAt w w.heap.size A l) (hn : ∀ k, k < l.length → 1 ≤ nth l k ∧ nth l k ≤ 64) (hlen : l.length ≤ 64) :
    Calls Tryz.prog 9 #[.slice A l.length c] w fun e w' => (∃ p, e = .returned (.tuple #[.pointer (some ⟨p, 0, none⟩), .nilIface]) ∧ PkAt w' (fun b => b < w.heap.size) p (mkF (natL l) 1 0).1 (mkF (natL l) 1 0).2) ∧ Below w.heap.size w w' := by
  obtain ⟨inf, hi, iz0, iz1, iz2⟩ := info_parts qinfoFl
  have HL := Lib.hid hl
  have HN := Lib.hid hn
  clear hl hn
  go_enter Tryz.func9, Tryz.ntmps9
  go_wp2_with fail
  go_loopw [5, 17] (fun v5 v17 wr => ∃ (j wds bit : Nat) (fs : List Fld) (FA : Option Addr) (FC : Nat), v5 = .int .i64 bit ∧ v17 = .int .i64 j ∧ j ≤ l.length ∧ bit ≤ 64 ∧ 1 ≤ wds ∧ wds ≤ j + 1 ∧ Hid (fs.length = j) ∧ Hid (BxI wr w.heap.size 90 #[.slice FA j FC, .int .i64 wds]) ∧
    Hid (wr.ownsRow (w.heap.size + 1) 92 4 (.slice FA j FC) j (fldC fs)) ∧ Hid (Below w.heap.size w wr) ∧ Hid (mkF (natL l) 1 0 = (fs ++ (mkF ((natL l).drop j) wds bit).1, (mkF ((natL l).drop j) wds bit).2))) (fun _ v _ => l.length - (RowKit.intOf v).toNat)
  case atStart => exact ⟨0, 1, 0, [], none, 0, rfl, rfl, Nat.zero_le _, by omega, by omega, by omega, Lib.hid rfl, Lib.hid (BxI.new _ _ _), Lib.hid ⟨rfl, .inl ⟨rfl, rfl⟩⟩, Lib.hid (by repeat (first | exact Below.refl _ _ | refine below_dN ?_ _ | refine Below.drew ?_ | refine Below.alloc ?_ (by first | omega | (simp; done) | (simp; omega)) _ | refine Below.setCell ?_ (by first | omega | (simp; done) | (simp; omega)) _ | refine below_step (by assumption) (by first | omega | (simp; done) | (simp; omega)) ?_)), Lib.hid rfl⟩
  case round =>
    obtain ⟨j, wds, bit, fs, FA, FC, rfl, rfl, hj, hbit, hw1, hw2, HFL, HBX, HOW, HBE, HMK⟩ := hrel
    by_cases hlt : j < l.length
    · have hd1 : decide ((j : Int) < (l.length : Int)) = true := decide_eq_true (by omega)
      obtain ⟨b, off, rfl, hb, hc⟩ := HL.out.2 (by omega)
      obtain ⟨hn1, hn2⟩ := HN.out j hlt
      have d0 := (HBE.out.cell (p := ⟨b, _, none⟩) hb).trans (hc j hlt)
      obtain ⟨n, hnn⟩ : ∃ n, nth l j = n := ⟨_, rfl⟩
      rw [hnn] at d0 hn1 hn2
      have HNN := Lib.hid hnn
      have e1 : decide (n < 1) = false := decide_eq_false (by omega)
      have e2 : decide ((64 : Int) < n) = false := decide_eq_false (by omega)
      clear hc hnn
      obtain ⟨wt, rfl⟩ : ∃ wt : World, wt = wr := ⟨_, rfl⟩
      go_upto_block 2 with fail
      go_cut [8] (fun v8 wx => v8 = .int .i64 (wdN n.toNat : Nat) ∧ wx = wt)
      case first =>
        go_wp2_with fail
        go_loopw [8] (fun v wq => ∃ k : Nat, k ≤ 6 ∧ v = .int .i64 k ∧ Hid (∀ i, i < k → 2 ^ i < n.toNat) ∧ wq = wt) (fun v _ => 7 - (RowKit.intOf v).toNat)
        case atStart => exact ⟨0, by omega, rfl, Lib.hid (fun i h => by omega), rfl⟩
        case round =>
          obtain ⟨k, hk, rfl, HK, rfl⟩ := hrel
          by_cases hlt2 : wrap64 (2 ^ k) < n
          · have HK2 := Lib.hid (wd_more hk hn2 hlt2 HK.out)
            have hk6 := HK2.out.1
            go_wp2
            go_roundw
            case rel => exact ⟨k + 1, by omega, rfl, Lib.hid HK2.out.2, by first | rfl | trivial⟩
            case measure => simp [RowKit.intOf]; omega
          · have HW := Lib.hid (wd_stop hk hn1 hn2 hlt2 HK.out)
            go_wp2
            go_meet
            exact ⟨by rw [HW.out], by first | rfl | trivial⟩
      case rest =>
        obtain ⟨rfl, hwc⟩ := hcut
        have hwc := hwc.symm
        subst hwc
        obtain ⟨wi, hwi⟩ : ∃ wi, wdN n.toNat = wi := ⟨_, rfl⟩
        have hw6 : wi ≤ 6 := by rw [← hwi]; exact (wdN_le (by omega)).2
        have c0 := HBX.out.cell 0 _ rfl
        have c1 := HBX.out.cell 1 _ rfl
        have f0 := HBX.out.fz 0
        have f1 := HBX.out.fz 1
        have hmk := HMK.out
        rw [natL_drop hlt, HNN.out] at hmk
        rw [hwi]
        go_upto_if 37 with fail
        go_cut [5] (fun v5 wx => ∃ wd2 bit2 : Nat, v5 = .int .i64 bit2 ∧ bit2 + wi ≤ 64 ∧ 1 ≤ wd2 ∧ wd2 ≤ j + 2 ∧ Hid (BxI wx w.heap.size 90 #[.slice FA j FC, .int .i64 wd2]) ∧ Hid (wx.ownsRow (w.heap.size + 1) 92 4 (.slice FA j FC) j (fldC fs)) ∧ Hid (Below w.heap.size w wx) ∧
          Hid (mkF (natL l) 1 0 = (fs ++ ⟨wd2 - 1, bit2, wi, n.toNat⟩ :: (mkF ((natL l).drop (j + 1)) wd2 (bit2 + wi)).1, (mkF ((natL l).drop (j + 1)) wd2 (bit2 + wi)).2)))
        case first =>
          by_cases h64 : 64 < bit + wi
          · have HM2 := Lib.hid (hmk.trans (by rw [mkF_cons, hwi, if_pos h64]))
            have hd : decide ((64 : Int) < (bit : Int) + (wi : Int)) = true := decide_eq_true (by omega)
            clear hmk
            go_wp2
            go_meet
            exact ⟨wds + 1, 0, rfl, by omega, by omega, by omega, Lib.hid (HBX.out.set 1 _), Lib.hid (own_set HOW.out (p := ⟨w.heap.size, 1, none⟩) (Nat.lt_succ_self _)), Lib.hid (HBE.out.setCell (p := ⟨w.heap.size, 1, none⟩) (Nat.le_refl _) _), Lib.hid (by
              rw [HM2.out, Nat.zero_add, Nat.add_sub_cancel])⟩
          · have HM2 := Lib.hid (hmk.trans (by rw [mkF_cons, hwi, if_neg h64]))
            have hd : decide ((64 : Int) < (bit : Int) + (wi : Int)) = false := decide_eq_false (by omega)
            clear hmk
            go_wp2
            go_meet
            exact ⟨wds, bit, rfl, by omega, by omega, by omega, HBX, HOW, HBE, HM2⟩
        case rest =>
          obtain ⟨wd2, bit2, rfl, hb2, hw3, hw4, HB2, HO2, HE2, HM2⟩ := hcut
          clear hmk c0 c1 f0 f1
          have hlt9 := HB2.out.lt
          have HS1 := Lib.hid (show ∀ w' : World, Below wc.heap.size wc w' → w'.cell? ⟨w.heap.size, 0, none⟩ = some (.slice FA j FC) ∧ w'.cell? ⟨w.heap.size, 1, none⟩ = some (.int .i64 wd2) from fun w' hb' => ⟨(HB2.out.up hb').cell 0 _ rfl, (HB2.out.up hb').cell 1 _ rfl⟩)
          have HPN := Lib.hid (show some w.heap.size ≠ (Value.slice FA j FC).ownBlock from fun e => by have := (HO2.out.lt _ e.symm).1; omega)
          obtain ⟨q, hq⟩ : ∃ q : Nat, wd2 - 1 = q := ⟨_, rfl⟩
          have hsub : IntKind.i64.wrap ((wd2 : Int) - 1) = (q : Int) := by
            rw [show (wd2 : Int) - 1 = ((q : Nat) : Int) by omega]
            exact i64_nat q (by omega)
          have HQ := Lib.hid hq
          clear hq
          go_wp2_with fail
          refine wp_region_G 15 (fun w' => w'.cell? ⟨w.heap.size, 0, none⟩ = some (.slice FA j FC) ∧ w'.cell? ⟨w.heap.size, 1, none⟩ = some (.int .i64 wd2)) (by kernel_rfl) (HS1.out _ (by repeat (first | exact Below.refl _ _ | refine below_dN ?_ _ | refine Below.drew ?_ | refine Below.alloc ?_ (by first | omega | (simp; done) | (simp; omega)) _ | refine Below.setCell ?_ (by first | omega | (simp; done) | (simp; omega)) _ | refine below_step (by assumption) (by first | omega | (simp; done) | (simp; omega)) ?_))) ?_
          intro hG0
          refine wpS1 0 hG0 ?_; intro hG1; clear hG0
          refine wpS1 1 hG1 ?_; intro hG2; clear hG1
          refine wpS1 2 hG2 ?_; intro hG3; clear hG2
          refine wpS1 3 hG3 ?_; intro hG4; clear hG3
          refine wpS2 4 hG4 ?_; intro hG5; clear hG4
          refine wpS1 5 hG5 ?_; intro hG6; clear hG5
          refine wpS1 6 hG6 ?_; intro hG7; clear hG6
          refine wpS1 7 hG7 ?_; intro hG8; clear hG7
          refine wpS2 8 hG8 ?_; intro hG9; clear hG8
          refine wpS1 9 hG9 ?_; intro hG10; clear hG9
          refine wpS1 10 hG10 ?_; intro hG11; clear hG10
          refine wpS1 11 hG11 ?_; intro hG12; clear hG11
          refine wpS1 12 hG12 ?_; intro hG13; clear hG12
          refine wpS1 13 hG13 ?_; intro hG14; clear hG13
          refine wpAnyG_ready (rs := [14]) (by kernel_rfl) (by simp) (AllG.cons rfl hG14 (fun K hK => ?_) AllG.nil)
          (go_simp)
          refine hK.out _ _ (Or.inr (HS1.out _ (by repeat (first | exact Below.refl _ _ | refine below_dN ?_ _ | refine Below.drew ?_ | refine Below.alloc ?_ (by first | omega | (simp; done) | (simp; omega)) _ | refine Below.setCell ?_ (by first | omega | (simp; done) | (simp; omega)) _ | refine below_step (by assumption) (by first | omega | (simp; done) | (simp; omega)) ?_)))) (fun hG15 => wpN ?_); clear hK hG14
          refine wpAnyG_ready (rs := [15]) (by kernel_rfl) (by simp) (AllG.cons rfl hG15 (fun K hK => ?_) AllG.nil)
          (refine step_append_src (by rfl) _ _ 88 (by rfl) (w.heap.size + 1) 92 inf (.agg #[.int .i64 0, .int .i64 0, .int .i64 0, .int .i64 0]) 4 32 qundFl hi iz0 iz1 iz2 rfl (by decide) (.slice FA j FC) j (fldC fs) (by rfl) (by exact HO2.out.alloc _) (some ⟨wc.heap.size, 0, none⟩) 1 1 [.int .i64 q, .int .i64 bit2, .int .i64 wi, .int .i64 n] (by rfl) (src_of (heap_alloc_new wc _) rfl (four_one rfl rfl rfl rfl)) (by unfold maxLen; omega) (by omega) (by first | omega | (simp; done) | (simp; omega)) ?_; intro v9 w9 hown9 hgrow9 hat9; obtain ⟨A9, c9, rfl⟩ := own_shape hown9; have HO9 := Lib.hid hown9; have HX9 := Lib.hid (show BxI w9 w.heap.size 90 #[.slice FA j FC, .int .i64 wd2] from (HB2.out.up (show Below wc.heap.size wc _ by repeat (first | exact Below.refl _ _ | refine below_dN ?_ _ | refine Below.drew ?_ | refine Below.alloc ?_ (by first | omega | (simp; done) | (simp; omega)) _ | refine Below.setCell ?_ (by first | omega | (simp; done) | (simp; omega)) _ | refine below_step (by assumption) (by first | omega | (simp; done) | (simp; omega)) ?_))).grown hgrow9 HPN.out); have HE9 := Lib.hid (show Below w.heap.size w w9 from ((HE2.out.drew).alloc (by simp; omega) _).grown hgrow9 (by simp; omega) (fun k hk => by have := (HO2.out.lt k hk).1; omega)); clear hown9 hgrow9 hat9)
          refine hK.out _ _ (Or.inl rfl) (fun hG16 => wpN ?_); clear hK hG15
          refine wpS1 16 hG16 ?_; intro hG17; clear hG16
          refine wpS1 17 hG17 ?_; intro hG18; clear hG17
          refine wpAnyG_ready (rs := [18]) (by kernel_rfl) (by simp) (AllG.cons rfl hG18 (fun K hK => ?_) AllG.nil)
          (refine step_store1 (by rfl) 88 _ _ (by rfl) w.heap.size 0 (.slice A9 (j + 1) c9) rfl (by rfl) (by rfl) (there_blk HX9.out (by simp)) (by kernel_rfl) rfl ?_; intro wy HWY)
          refine hK.out _ _ (Or.inl rfl) (fun hG19 => wpN ?_); clear hK hG18
          refine wpAnyG_done (by kernel_rfl) ?_ _; clear hG19
          have HBY := Lib.hid (show BxI wy w.heap.size 90 #[.slice A9 (j + 1) c9, .int .i64 wd2] by rw [HWY.out]; exact HX9.out.set 0 _)
          have HOY := Lib.hid (show wy.ownsRow (w.heap.size + 1) 92 4 (.slice A9 (j + 1) c9) (j + 1) (fldC (fs ++ [⟨wd2 - 1, bit2, wi, n.toNat⟩])) by
            rw [HWY.out, fldC_app]
            have e : fldC [⟨wd2 - 1, bit2, wi, n.toNat⟩] = [.int .i64 q, .int .i64 bit2, .int .i64 wi, .int .i64 n] := by
              show [Value.int .i64 ((wd2 - 1 : Nat) : Int), .int .i64 bit2, .int .i64 wi, .int .i64 (n.toNat : Int)] = _
              rw [HQ.out, show ((n.toNat : Nat) : Int) = n by omega]
            rw [e]
            exact own_set HO9.out (p := ⟨w.heap.size, 0, none⟩) (Nat.lt_succ_self _))
          have HEY := Lib.hid (show Below w.heap.size w wy by rw [HWY.out]; exact HE9.out.setCell (p := ⟨w.heap.size, 0, none⟩) (Nat.le_refl _) _)
          clear hsub
          go_wp2
          go_roundw
          case rel => exact ⟨j + 1, wd2, bit2 + wi, fs ++ [⟨wd2 - 1, bit2, wi, n.toNat⟩], A9, c9, rfl, rfl, by omega, hb2, hw3, hw4, Lib.hid (by rw [List.length_append, HFL.out]; rfl), HBY, HOY, HEY, Lib.hid (by rw [HM2.out, List.append_assoc]; rfl)⟩
          case measure => simp [RowKit.intOf]; omega
    · obtain rfl : j = l.length := by omega
      go_wp2
      refine bodyPost_ret (v := .tuple #[.pointer (some ⟨w.heap.size, 0, none⟩), .nilIface]) (by simp [results, Tryz.results9, go_sem, ↓IntWalk.iteOmega, *]) rfl ⟨⟨_, rfl, ?_⟩, HBE.out⟩
      have hmk := HMK.out
      rw [List.drop_eq_nil_of_le (show (natL l).length ≤ l.length by unfold natL; simp)] at hmk
      rw [hmk]
      show PkAt wr _ w.heap.size (fs ++ []) wds
      rw [List.append_nil]
      have hfl := HFL.out
      have ho := HOW.out
      rw [← hfl] at ho
      refine ⟨FA, FC, by rw [hfl]; exact HBX.out, by simp, ?_, fun h0 => ?_⟩
      · rcases ho.2 with ⟨h1, h2⟩ | ⟨g, cap, cur, h1, _, _, h2, _⟩
        · omega
        · injection h1 with _ _ h3; omega
      · obtain ⟨g, rfl, hg1, hg2, _⟩ := own_frozen' ho h0
        refine ⟨g, 0, rfl, hg2, by omega, fun i hi => ?_⟩
        obtain ⟨a0, a1, a2, a3⟩ := fldC_get fs i hi
        rw [Nat.zero_add]
        exact ⟨own_cell ho a0, own_cell ho a1, own_cell ho a2, own_cell ho a3⟩
end Go.Proofs.YtpobnjbpglaohaaGreat

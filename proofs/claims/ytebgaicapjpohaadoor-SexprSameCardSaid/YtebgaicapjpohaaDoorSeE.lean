/- sexpr: lower. -/
import Derived.Test.YtebgaicapjpohaaDoorSeD
import Derived.Lib.IndexAny
import Derived.Lib.ConvBytes
import Derived.Lib.AtoiErrMem
import Derived.Laws.IdiomStrings
namespace Go.Proofs.YtebgaicapjpohaaDoor
set_option linter.unusedSimpArgs false
set_option linter.unusedVariables false
open Go Go.RowKit
set_option linter.unusedVariables false

theorem lowP_app : ∀ (a b : List UInt8), lowP (a ++ b) = match lowP a, lowP b with
    | some x, some y => some (x ++ y)
    | _, _ => none
  | [], b => by
    rw [List.nil_append, lowP]
    cases lowP b <;> rfl
  | c :: a, b => by
    rw [List.cons_append, lowP, lowP, lowP_app a b]
    cases lowB c <;> cases lowP a <;> cases lowP b <;> rfl
theorem lowP_len : ∀ (a x : List UInt8), lowP a = some x → x.length = a.length
  | [], x, h => by cases h; rfl
  | c :: a, x, h => by
    rw [lowP] at h
    cases h1 : lowB c with
    | none => rw [h1] at h; cases h
    | some u =>
      cases h2 : lowP a with
      | none => rw [h1, h2] at h; cases h
      | some v => rw [h1, h2] at h; cases h; rw [List.length_cons, List.length_cons, lowP_len a v h2]
theorem bt_mid (a b : List UInt8) (c : UInt8) (k : Nat) (h : a.length = k) : bt (a ++ c :: b) k = c := by
  subst h
  unfold bt
  simp [List.getD]
/-- Bytes in a block. -/
structure ByAt (w : World) (g : Nat) (l : List UInt8) : Prop where
  lt : g < w.heap.size
  cell : ∀ k, k < l.length → w.cell? ⟨g, k, none⟩ = some (.int .u8 ((bt l k).toNat : Int))
  fz : ∀ k, k < l.length → w.frozen? ⟨g, k, none⟩ = false
theorem ByAt.set {w : World} {g k : Nat} {a b : List UInt8} {c d : UInt8} (h : ByAt w g (a ++ c :: b)) (hk : a.length = k) : ByAt (w.setCell ⟨g, k, none⟩ (.int .u8 (d.toNat : Int))) g (a ++ d :: b) where
  lt := by simpa [World.setCell] using h.lt
  cell := fun j hj => by
    have hl : j < (a ++ c :: b).length := by simpa using hj
    by_cases e : j = k
    · subst e
      rw [World.cell?_setCell_same' _ _ _ (by rw [h.cell j hl]; rfl), bt_mid a b d j hk]
    · rw [World.cell?_setCell_other _ _ _ _ (by simp [Ne.symm e]), h.cell j hl]
      unfold bt
      simp only [List.getD]
      by_cases h1 : j < a.length
      · rw [List.getElem?_append_left h1, List.getElem?_append_left h1]
      · rw [List.getElem?_append_right (by omega), List.getElem?_append_right (by omega)]
        obtain ⟨m, hm⟩ : ∃ m, j - a.length = m + 1 := ⟨j - a.length - 1, by omega⟩
        rw [hm]
        rfl
  fz := fun j hj => by
    have hl : j < (a ++ c :: b).length := by simpa using hj
    rw [← h.fz j hl]
    simp
theorem conv_bytes (w : World) (s : List UInt8) : ∃ W C, (convert 9 40 (.string (bs s))).run Tryd.prog w = .ok (.slice (some ⟨w.heap.size, 0, none⟩) s.length C) W ∧ Below w.heap.size w W ∧ ByAt W w.heap.size s := by
  refine ⟨Lib.bytesWorld w 5 (bs s), grownCap w (bs s).size 0 5, ?_, ?_, ?_⟩
  · have := Lib.run_convert_string_bytes (P := Tryd.prog) w 9 40 5 (bs s) Tryd.underlying9 Tryd.underlying40 Tryd.underlying5
    rw [this, bs_size]
  · exact Lib.bytesWorld_below _ _ _
  · refine ⟨by rw [Lib.bytesWorld_size]; omega, fun k hk => ?_, fun k hk => ?_⟩
    · rw [Lib.bytesWorld_cell w _ _ k (by rw [bs_size]; exact hk)]
      rfl
    · have h := Lib.bytesWorld_at_new w 5 (bs s)
      have h2 : (Lib.bytesCells w 5 (bs s)).size ≥ s.length := by
        have := bs_size s
        have h3 : (bs s).data.size = s.length := this
        unfold Lib.bytesCells
        simp [h3]
      simp [World.frozen?, h]
      omega
/-- What lower answers. -/
def lowV : Option (List UInt8) → Value
  | some t => .tuple #[.string (bs t), .bool true]
  | none => .tuple #[.string ⟨#[]⟩, .bool false]
theorem idx_other (c : UInt8) (w : World) : Calls Tryd.prog 26 #[.string ⟨#[45, 95, 63, 58, 60, 62, 61, 43, 42]⟩, .int .u8 (c.toNat : Int)] w fun e w' => (∃ m : Int, e = .returned (.int .i64 m) ∧ (0 ≤ m ↔ c ∈ ([45, 95, 63, 58, 60, 62, 61, 43, 42] : List UInt8))) ∧ w' = w :=
  (Tryd.strings_IndexByte ⟨#[45, 95, 63, 58, 60, 62, 61, 43, 42]⟩ (c.toNat : Int) w).mono fun e w' ⟨h1, h2⟩ => ⟨⟨_, h1, by
    have h := Lib.contains_iff_indexByte [45, 95, 63, 58, 60, 62, 61, 43, 42] c
    have e : ((c.toNat : Int).toNat).toUInt8 = c := by simp
    rw [e]
    constructor
    · intro h3
      have : ([45, 95, 63, 58, 60, 62, 61, 43, 42] : List UInt8).contains c = true := by rw [h]; exact decide_eq_true h3
      simpa using this
    · intro h3
      have : ([45, 95, 63, 58, 60, 62, 61, 43, 42] : List UInt8).contains c = true := by simpa using h3
      rw [h] at this
      exact of_decide_eq_true this⟩, h2⟩

theorem lower_end {wr : World} {g C : Nat} {l : List UInt8} (h : ByAt wr g l) : (convert 40 9 (.slice (some ⟨g, 0, none⟩) l.length C)).run Tryd.prog wr = .ok (.string (bs l)) wr :=
  run_convert_bytes_back (P := Tryd.prog) wr 40 9 5 ⟨g, 0, none⟩ C l Tryd.underlying40 Tryd.underlying5 Tryd.underlying9 (fun j hj => by
    have h1 := h.cell j hj
    have h2 : bt l j = l[j] := by unfold bt; rw [List.getD, List.getElem?_eq_getElem hj]; rfl
    rw [h2] at h1
    have h3 : (⟨g, 0, none⟩ : Addr).add j = ⟨g, j, none⟩ := by unfold Addr.add; split <;> simp_all
    rw [h3]
    exact h1)
theorem low_cap {c : UInt8} (h : 65 ≤ c.toNat) (h2 : c.toNat ≤ 90) : lowB c = some (c + 32) ∧ (c + 32).toNat = c.toNat + 32 := by
  unfold lowB
  rw [if_pos ⟨h, h2⟩]
  refine ⟨rfl, ?_⟩
  rw [UInt8.toNat_add]
  show (c.toNat + 32) % 256 = _
  omega
/-- One byte more is in lower case. -/
theorem low_step {s t : List UInt8} {k : Nat} {x : UInt8} (hk : k < s.length) (h : lowP (s.take k) = some t) (hx : lowB (bt s k) = some x) : lowP (s.take (k + 1)) = some (t ++ [x]) := by
  rw [bt_take hk, lowP_app, h, lowP, hx]
  rfl
theorem low_stop {s t : List UInt8} {k : Nat} (hk : k < s.length) (h : lowP (s.take k) = some t) (hx : lowB (bt s k) = none) : lowP s = none := by
  have e : s = s.take k ++ bt s k :: s.drop (k + 1) := by rw [← bt_drop hk, List.take_append_drop]
  rw [e, lowP_app, h, lowP, hx]

set_option maxRecDepth 20000 in
set_option maxHeartbeats 4000000 in
theorem lower_any (s : List UInt8) (w : World) (hs : s.length ≤ 65536) :
    Calls Tryd.prog 29 #[.string (bs s)] w fun e w' => e = .returned (lowV (lowerP s)) ∧ Below w.heap.size w w' := by
  have hz := bs_size s
  obtain ⟨V, hV⟩ : ∃ V, lowerP s = V := ⟨_, rfl⟩
  rw [hV]
  have hQ : V = if s = [] ∨ 32 < s.length then none else lowP s := hV.symm
  by_cases hn : s = []
  · subst hn
    have HQ := Lib.hid (show V = none from hQ)
    have he : (bs []).toList = [] := by rw [Lib.toList_data]; rfl
    clear hQ hV
    go_enter Tryd.func29, Tryd.ntmps29
    go_wp2
    refine bodyPost_ret (v := .tuple #[.string ⟨#[]⟩, .bool false]) (by simp [results, Tryd.results29, go_sem, ↓IntWalk.iteOmega, *]) rfl ⟨by rw [HQ.out]; rfl, by repeat (first | exact Below.refl _ _ | refine below_dN ?_ _ | refine Below.drew ?_ | refine Below.alloc ?_ (by first | omega | (simp; done) | (simp; omega)) _ | refine Below.setCell ?_ (by first | omega | (simp; done) | (simp; omega)) _ | refine below_step (by assumption) (by first | omega | (simp; done) | (simp; omega)) ?_)⟩
  · have he : (bs s).toList.isEmpty = false := by rw [Lib.toList_data, bs_data]; cases s with | nil => exact absurd rfl hn | cons a b => rfl
    by_cases hl : 32 < s.length
    · have HQ := Lib.hid (show V = none by rw [hQ, if_pos (.inr hl)])
      clear hQ hV hn
      go_enter Tryd.func29, Tryd.ntmps29
      go_wp2
      refine bodyPost_ret (v := .tuple #[.string ⟨#[]⟩, .bool false]) (by simp [results, Tryd.results29, go_sem, ↓IntWalk.iteOmega, *]) rfl ⟨by rw [HQ.out]; rfl, by repeat (first | exact Below.refl _ _ | refine below_dN ?_ _ | refine Below.drew ?_ | refine Below.alloc ?_ (by first | omega | (simp; done) | (simp; omega)) _ | refine Below.setCell ?_ (by first | omega | (simp; done) | (simp; omega)) _ | refine below_step (by assumption) (by first | omega | (simp; done) | (simp; omega)) ?_)⟩
    · have HQ := Lib.hid (show V = lowP s by rw [hQ, if_neg (fun h => h.elim hn hl)])
      clear hQ hV hn
      obtain ⟨W, C, hcv, hb1, hby⟩ := conv_bytes w s
      obtain ⟨g, hg⟩ : ∃ g, w.heap.size = g := ⟨_, rfl⟩
      have hgl := hby.lt
      rw [hg] at hcv hby hb1 hgl
      have HB := Lib.hid hby
      clear hby
      have hle := hb1.size
      rw [hg]
      go_enter Tryd.func29, Tryd.ntmps29
      go_wp2
      go_loopw [18] (fun i wr => ∃ (k : Nat) (t : List UInt8), k ≤ s.length ∧ i = .int .i64 k ∧ t.length = k ∧ Hid (lowP (s.take k) = some t) ∧ Below g w wr ∧ g < wr.heap.size ∧ Hid (ByAt wr g (t ++ s.drop k))) (fun i _ => s.length - (intOf i).toNat)
      case atStart => exact ⟨0, [], by omega, rfl, rfl, Lib.hid rfl, hb1, by assumption, HB⟩
      case round =>
        obtain ⟨k, t, hk, rfl, htl, HT, hbel, hgw, HBY⟩ := hrel
        by_cases hlt : k < s.length
        · have hlen : (t ++ s.drop k).length = s.length := by rw [List.length_append, htl, List.length_drop]; omega
          have c0 := HBY.out.cell k (by omega)
          have f0 := HBY.out.fz k (by omega)
          rw [bt_drop hlt, bt_mid t _ _ k htl] at c0
          obtain ⟨c, hc⟩ : ∃ c, bt s k = c := ⟨_, rfl⟩
          have HBY2 := Lib.hid (show ByAt wr g (t ++ c :: s.drop (k + 1)) by have := HBY.out; rw [bt_drop hlt, hc] at this; exact this)
          have HC := Lib.hid hc
          rw [hc] at c0
          have hcn := c.toNat_lt
          have KD := Lib.hid (fun W => dig_any c W)
          have KI := Lib.hid (fun W => idx_other c W)
          have FIN := Lib.hid (show ∀ x wx, lowB c = some x → Below g w wx → g < wx.heap.size → ByAt wx g (t ++ x :: s.drop (k + 1)) → ∃ (k' : Nat) (t' : List UInt8), k' ≤ s.length ∧ Value.int .i64 ((k : Int) + 1) = .int .i64 k' ∧ t'.length = k' ∧ Hid (lowP (s.take k') = some t') ∧ Below g w wx ∧ g < wx.heap.size ∧ Hid (ByAt wx g (t' ++ s.drop k')) from
            fun x wx hx hb hg' hy => ⟨k + 1, t ++ [x], by omega, rfl, by rw [List.length_append, htl]; rfl, Lib.hid (low_step hlt HT.out (by rw [hc]; exact hx)), hb, hg', Lib.hid (by rw [List.append_assoc]; exact hy)⟩)
          have BADF := Lib.hid (show lowB c = none → V = none from fun h => by rw [HQ.out]; exact low_stop hlt HT.out (by rw [hc]; exact h))
          clear hc hlen HBY
          by_cases h1 : 65 ≤ c.toNat ∧ c.toNat ≤ 90
          · obtain ⟨h1a, h1b⟩ := h1
            obtain ⟨l1, l2⟩ := low_cap h1a h1b
            have L1 := Lib.hid l1
            have L2 := Lib.hid (show ByAt (wr.setCell ⟨g, k, none⟩ (.int .u8 ((c.toNat : Int) + 97 - 65))) g (t ++ (c + 32) :: s.drop (k + 1)) by
              have := HBY2.out.set (d := c + 32) htl
              rw [l2] at this
              rw [show (c.toNat : Int) + 97 - 65 = ((c.toNat + 32 : Nat) : Int) by omega]
              exact this)
            clear l1 l2
            go_wp2
            go_roundw
            case rel => exact FIN.out _ _ L1.out (hbel.setCell (p := ⟨g, k, none⟩) (Nat.le_refl _) _) (by simpa [World.setCell] using hgw) L2.out
            case measure => simp [intOf]; omega
          · by_cases h2 : 97 ≤ c.toNat ∧ c.toNat ≤ 122
            · obtain ⟨h2a, h2b⟩ := h2
              have L1 := Lib.hid (show lowB c = some c by unfold lowB; rw [if_neg h1, if_pos (.inl ⟨h2a, h2b⟩)])
              have h1' : ¬ c.toNat ≤ 90 := by omega
              clear h1
              go_wp2
              go_roundw
              case rel => exact FIN.out _ _ L1.out hbel hgw HBY2.out
              case measure => simp [intOf]; omega
            · by_cases h3 : c.toNat < 65
              · clear h1 h2
                have LB := Lib.hid (show lowB c = if digB c = true ∨ c ∈ ([45, 95, 63, 58, 60, 62, 61, 43, 42] : List UInt8) then some c else none by
                  unfold lowB
                  rw [if_neg (by omega)]
                  by_cases hx : digB c = true ∨ c ∈ ([45, 95, 63, 58, 60, 62, 61, 43, 42] : List UInt8)
                  · rw [if_pos hx, if_pos (.inr hx)]
                  · rw [if_neg hx, if_neg (fun h => h.elim (by omega) hx)])
                cases hd : digB c with
                | true =>
                  have kd := KD.out
                  rw [hd] at kd
                  have KD2 := Lib.hid kd
                  have L1 := Lib.hid (show lowB c = some c by rw [LB.out, if_pos (.inl hd)])
                  clear kd hd KD
                  go_wp2_with fail
                  refine (KD2.out _).mono ?_
                  rintro e w1 ⟨rfl, e1⟩
                  subst w1
                  go_wp2
                  go_roundw
                  case rel => exact FIN.out _ _ L1.out hbel hgw HBY2.out
                  case measure => simp [intOf]; omega
                | false =>
                  have kd := KD.out
                  rw [hd] at kd
                  have KD2 := Lib.hid kd
                  have LB2 := Lib.hid (show lowB c = if c ∈ ([45, 95, 63, 58, 60, 62, 61, 43, 42] : List UInt8) then some c else none by
                    rw [LB.out]
                    by_cases hx : c ∈ ([45, 95, 63, 58, 60, 62, 61, 43, 42] : List UInt8)
                    · rw [if_pos (.inr hx), if_pos hx]
                    · rw [if_neg (fun h => h.elim (fun h => by rw [hd] at h; cases h) hx), if_neg hx])
                  clear kd hd KD LB
                  go_wp2_with fail
                  refine (KD2.out _).mono ?_
                  rintro e w1 ⟨rfl, e1⟩
                  subst w1
                  go_wp2_with fail
                  refine (KI.out _).mono ?_
                  rintro e w1 ⟨⟨m, rfl, hm⟩, e1⟩
                  subst w1
                  by_cases hm0 : 0 ≤ m
                  · have L1 := Lib.hid (show lowB c = some c by rw [LB2.out, if_pos (hm.1 hm0)])
                    clear hm
                    go_wp2
                    go_roundw
                    case rel => exact FIN.out _ _ L1.out hbel hgw HBY2.out
                    case measure => simp [intOf]; omega
                  · have L1 := Lib.hid (BADF.out (by rw [LB2.out, if_neg (fun h => hm0 (hm.2 h))]))
                    clear hm
                    go_wp2
                    refine bodyPost_ret (v := .tuple #[.string ⟨#[]⟩, .bool false]) (by simp [results, Tryd.results29, go_sem, ↓IntWalk.iteOmega, *]) rfl ⟨by rw [L1.out]; rfl, hbel⟩
              · by_cases h4 : c.toNat < 97
                · have h5 : 90 < c.toNat := by omega
                  clear h1 h2
                  have LB := Lib.hid (show lowB c = if digB c = true ∨ c ∈ ([45, 95, 63, 58, 60, 62, 61, 43, 42] : List UInt8) then some c else none by
                    unfold lowB
                    rw [if_neg (by omega)]
                    by_cases hx : digB c = true ∨ c ∈ ([45, 95, 63, 58, 60, 62, 61, 43, 42] : List UInt8)
                    · rw [if_pos hx, if_pos (.inr hx)]
                    · rw [if_neg hx, if_neg (fun h => h.elim (by omega) hx)])
                  cases hd : digB c with
                  | true =>
                    have kd := KD.out
                    rw [hd] at kd
                    have KD2 := Lib.hid kd
                    have L1 := Lib.hid (show lowB c = some c by rw [LB.out, if_pos (.inl hd)])
                    clear kd hd KD
                    go_wp2_with fail
                    refine (KD2.out _).mono ?_
                    rintro e w1 ⟨rfl, e1⟩
                    subst w1
                    go_wp2
                    go_roundw
                    case rel => exact FIN.out _ _ L1.out hbel hgw HBY2.out
                    case measure => simp [intOf]; omega
                  | false =>
                    have kd := KD.out
                    rw [hd] at kd
                    have KD2 := Lib.hid kd
                    have LB2 := Lib.hid (show lowB c = if c ∈ ([45, 95, 63, 58, 60, 62, 61, 43, 42] : List UInt8) then some c else none by
                      rw [LB.out]
                      by_cases hx : c ∈ ([45, 95, 63, 58, 60, 62, 61, 43, 42] : List UInt8)
                      · rw [if_pos (.inr hx), if_pos hx]
                      · rw [if_neg (fun h => h.elim (fun h => by rw [hd] at h; cases h) hx), if_neg hx])
                    clear kd hd KD LB
                    go_wp2_with fail
                    refine (KD2.out _).mono ?_
                    rintro e w1 ⟨rfl, e1⟩
                    subst w1
                    go_wp2_with fail
                    refine (KI.out _).mono ?_
                    rintro e w1 ⟨⟨m, rfl, hm⟩, e1⟩
                    subst w1
                    by_cases hm0 : 0 ≤ m
                    · have L1 := Lib.hid (show lowB c = some c by rw [LB2.out, if_pos (hm.1 hm0)])
                      clear hm
                      go_wp2
                      go_roundw
                      case rel => exact FIN.out _ _ L1.out hbel hgw HBY2.out
                      case measure => simp [intOf]; omega
                    · have L1 := Lib.hid (BADF.out (by rw [LB2.out, if_neg (fun h => hm0 (hm.2 h))]))
                      clear hm
                      go_wp2
                      refine bodyPost_ret (v := .tuple #[.string ⟨#[]⟩, .bool false]) (by simp [results, Tryd.results29, go_sem, ↓IntWalk.iteOmega, *]) rfl ⟨by rw [L1.out]; rfl, hbel⟩
                · have h5 : 122 < c.toNat := by omega
                  clear h1 h2
                  have LB := Lib.hid (show lowB c = if digB c = true ∨ c ∈ ([45, 95, 63, 58, 60, 62, 61, 43, 42] : List UInt8) then some c else none by
                    unfold lowB
                    rw [if_neg (by omega)]
                    by_cases hx : digB c = true ∨ c ∈ ([45, 95, 63, 58, 60, 62, 61, 43, 42] : List UInt8)
                    · rw [if_pos hx, if_pos (.inr hx)]
                    · rw [if_neg hx, if_neg (fun h => h.elim (by omega) hx)])
                  cases hd : digB c with
                  | true =>
                    have kd := KD.out
                    rw [hd] at kd
                    have KD2 := Lib.hid kd
                    have L1 := Lib.hid (show lowB c = some c by rw [LB.out, if_pos (.inl hd)])
                    clear kd hd KD
                    go_wp2_with fail
                    refine (KD2.out _).mono ?_
                    rintro e w1 ⟨rfl, e1⟩
                    subst w1
                    go_wp2
                    go_roundw
                    case rel => exact FIN.out _ _ L1.out hbel hgw HBY2.out
                    case measure => simp [intOf]; omega
                  | false =>
                    have kd := KD.out
                    rw [hd] at kd
                    have KD2 := Lib.hid kd
                    have LB2 := Lib.hid (show lowB c = if c ∈ ([45, 95, 63, 58, 60, 62, 61, 43, 42] : List UInt8) then some c else none by
                      rw [LB.out]
                      by_cases hx : c ∈ ([45, 95, 63, 58, 60, 62, 61, 43, 42] : List UInt8)
                      · rw [if_pos (.inr hx), if_pos hx]
                      · rw [if_neg (fun h => h.elim (fun h => by rw [hd] at h; cases h) hx), if_neg hx])
                    clear kd hd KD LB
                    go_wp2_with fail
                    refine (KD2.out _).mono ?_
                    rintro e w1 ⟨rfl, e1⟩
                    subst w1
                    go_wp2_with fail
                    refine (KI.out _).mono ?_
                    rintro e w1 ⟨⟨m, rfl, hm⟩, e1⟩
                    subst w1
                    by_cases hm0 : 0 ≤ m
                    · have L1 := Lib.hid (show lowB c = some c by rw [LB2.out, if_pos (hm.1 hm0)])
                      clear hm
                      go_wp2
                      go_roundw
                      case rel => exact FIN.out _ _ L1.out hbel hgw HBY2.out
                      case measure => simp [intOf]; omega
                    · have L1 := Lib.hid (BADF.out (by rw [LB2.out, if_neg (fun h => hm0 (hm.2 h))]))
                      clear hm
                      go_wp2
                      refine bodyPost_ret (v := .tuple #[.string ⟨#[]⟩, .bool false]) (by simp [results, Tryd.results29, go_sem, ↓IntWalk.iteOmega, *]) rfl ⟨by rw [L1.out]; rfl, hbel⟩
        · obtain rfl : k = s.length := by omega
          have hcv2 : ∀ C, (convert 40 9 (.slice (some ⟨g, 0, none⟩) s.length C)).run Tryd.prog wr = .ok (.string (bs t)) wr := fun C => by
            have := HBY.out
            rw [List.drop_length, List.append_nil] at this
            have h2 := lower_end (C := C) this
            rw [htl] at h2
            exact h2
          have L1 := Lib.hid (show V = some t by rw [HQ.out, ← HT.out, List.take_length])
          clear HBY HT
          go_wp2
          refine bodyPost_ret (v := .tuple #[.string (bs t), .bool true]) (by simp [results, Tryd.results29, go_sem, ↓IntWalk.iteOmega, *]) rfl ⟨by rw [L1.out]; rfl, hbel⟩
end Go.Proofs.YtebgaicapjpohaaDoor

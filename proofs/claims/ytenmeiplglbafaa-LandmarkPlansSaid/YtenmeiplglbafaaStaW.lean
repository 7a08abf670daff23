/- base.States: all states as rows of numbers. -/
import Derived.Test.YtenmeiplglbafaaStaP
import Derived.Test.YtenmeiplglbafaaRowGe
import Derived.Test.YtenmeiplglbafaaKb
import Derived.Test.YtenmeiplglbafaaApp
import Derived.Test.YtenmeiplglbafaaTaskN
namespace Go.Proofs.Ytenmeiplglbafaa
set_option linter.unusedSimpArgs false
set_option linter.unusedVariables false
open Go Go.RowKit
set_option linter.unusedVariables false

/-- Rows of numbers, done: a slice of slices. -/
def RowsAt (w : World) (B : Nat) (A : Option Addr) (L : List (List Int)) : Prop :=
  0 < L.length → ∃ b, A = some ⟨b, 0, none⟩ ∧ b < B ∧ ∀ k, k < L.length → ∃ S c, w.cell? ⟨b, k, none⟩ = some (.slice S (row L k).length c) ∧ (S = none → c = 0) ∧ IntsAt w B S (row L k)
def GotRows (w : World) (v : Value) (L : List (List Int)) : Prop := ∃ A c, v = .slice A L.length c ∧ RowsAt w w.heap.size A L
/-- A row that lies at the beginning of a block of numbers. -/
def RwI (w : World) (S : Option Addr) (l : List Int) : Prop := l.length ≤ 1000 ∧ (0 < l.length → ∃ b, S = some ⟨b, 0, none⟩ ∧ rowGe w b 3 l.length (fun i => .int .i64 (nth l i)))
def RwS (w : World) (xs : List Value) (L : List (List Int)) : Prop := ∀ k, k < L.length → ∃ S c, xs[k]? = some (.slice S (row L k).length c) ∧ (S = none → c = 0) ∧ RwI w S (row L k)
/-- Rows being gathered. -/
def Bld (w : World) (base : Nat) (v : Value) (L : List (List Int)) : Prop := ∃ xs, w.ownsRow base 22 1 v L.length xs ∧ RwS w xs L
section
variable {w w' : World} {base : Nat} {v v' : Value} {L : List (List Int)} {xs : List Value}
theorem RowsAt.up {A : Option Addr} (h : RowsAt w w.heap.size A L) (hb : Below w.heap.size w w') : RowsAt w' w'.heap.size A L := fun h0 => by
  obtain ⟨b, e, hlt, hc⟩ := h h0
  refine ⟨b, e, Nat.lt_of_lt_of_le hlt hb.size, fun k hk => ?_⟩
  obtain ⟨S, c, h1, h2, h3⟩ := hc k hk
  exact ⟨S, c, (hb.cell (p := ⟨b, k, none⟩) hlt).trans h1, h2, h3.up hb⟩
theorem GotRows.up (h : GotRows w v L) (hb : Below w.heap.size w w') : GotRows w' v L := by
  obtain ⟨A, c, e, h⟩ := h
  exact ⟨A, c, e, h.up hb⟩
theorem RwI.of {S : Option Addr} {l : List Int} (h : RwI w S l) (hb : ∀ b n f, rowGe w b 3 n f → rowGe w' b 3 n f) : RwI w' S l := ⟨h.1, fun h0 => by
  obtain ⟨b, e, hr⟩ := h.2 h0
  exact ⟨b, e, hb _ _ _ hr⟩⟩
theorem RwS.of (h : RwS w xs L) (hb : ∀ b n f, rowGe w b 3 n f → rowGe w' b 3 n f) : RwS w' xs L := fun k hk => by
  obtain ⟨S, c, h1, h2, h3⟩ := h k hk
  exact ⟨S, c, h1, h2, h3.of hb⟩
theorem RwS.up (h : RwS w xs L) (hb : Below w.heap.size w w') : RwS w' xs L := h.of fun _ _ _ hr => hr.up hb
theorem Bld.nil (w : World) (base : Nat) : Bld w base (.slice none 0 0) [] := ⟨[], World.ownsRow_nil _ _ _ _, fun k hk => absurd hk (by simp)⟩
theorem Bld.up (h : Bld w base v L) (hb : Below w.heap.size w w') : Bld w' base v L := by
  obtain ⟨xs, h1, h2⟩ := h
  exact ⟨xs, own_below h1 hb, h2.up hb⟩
theorem row_left {a b : List (List Int)} {k : Nat} (h : k < a.length) : row (a ++ b) k = row a k := by unfold row; simp [List.getD, List.getElem?_append_left h]
theorem row_last {a : List (List Int)} {l : List Int} : row (a ++ [l]) a.length = l := by unfold row; simp [List.getD]
theorem bld_push {S : Option Addr} {c : Nat} {l : List Int} (hown : w.ownsRow base 22 1 v L.length xs) (hr : RwS w xs L) (hS : S = none → c = 0) (hl : RwI w S l) (hg : w.grownBy w' v.ownBlock) (hown' : w'.ownsRow base 22 1 v' (L.length + 1) (xs ++ [.slice S l.length c])) : Bld w' base v' (L ++ [l]) := by
  have key : ∀ b n f, rowGe w b 3 n f → rowGe w' b 3 n f := fun b n f h => h.grown hg (h.ne hown (by decide))
  refine ⟨_, by rw [List.length_append]; exact hown', fun k hk => ?_⟩
  have hxl : xs.length = L.length := by have := hown.1; simpa using this
  by_cases e : k < L.length
  · obtain ⟨S', c', h1, h2, h3⟩ := hr k e
    rw [row_left e]
    exact ⟨S', c', by rw [List.getElem?_append_left (by omega)]; exact h1, h2, h3.of key⟩
  · have : k = L.length := by simp at hk; omega
    subst this
    rw [row_last]
    exact ⟨S, c, by rw [← hxl, List.getElem?_append_right (Nat.le_refl _)]; simp, hS, hl.of key⟩
theorem Bld.done (h : Bld w base v L) : GotRows w v L := by
  obtain ⟨xs, hown, hr⟩ := h
  have hxl : xs.length = L.length := by have := hown.1; simpa using this
  obtain ⟨A, c, rfl, hA⟩ := rowGe_own hown (fun k => xs.getD k (.slice none 0 0)) fun i hi => by simp [List.getD, List.getElem?_eq_getElem (show i < xs.length by omega)]
  refine ⟨A, c, rfl, fun h0 => ?_⟩
  obtain ⟨g, e, hg, hrow⟩ := hA h0
  refine ⟨g, e, hrow.lt, fun k hk => ?_⟩
  obtain ⟨S, d, h1, h2, h3⟩ := hr k hk
  refine ⟨S, d, by rw [hrow.cell hk]; simp [List.getD, h1], h2, by have := h3.1; omega, fun hp => ?_⟩
  obtain ⟨b, e2, hb⟩ := h3.2 hp
  exact ⟨b, 0, e2, hb.lt, fun i hi => by simpa using hb.cell hi⟩
end
theorem infoIs : (Try.prog.info? 22).map (fun i => (i.zero, i.size, i.bytes)) = some (some (.slice none 0 0), 1, 24) := by kernel_rfl
theorem undIs : Try.prog.underlying 96 = some (.slice 22) := by kernel_rfl
theorem infoI6 : (Try.prog.info? 3).map (fun i => (i.zero, i.size, i.bytes)) = some (some (.int .i64 0), 1, 8) := by kernel_rfl
theorem undI6 : Try.prog.underlying 22 = some (.slice 3) := by kernel_rfl
theorem src_keep {w w1 : World} {A : Option Addr} {m c size : Nat} {news : List Value} (h : SrcAt w A m c size news) (hk : ∀ ad, A = some ad → ∀ j u, news[j]? = some u → w1.cell? (ad.add j) = w.cell? (ad.add j)) : SrcAt w1 A m c size news where
  none := h.none
  len := h.len
  cells := fun ad e j u hj => (hk ad e j u hj).trans (h.cells ad e j u hj)
  one := h.one
theorem grown_fresh {w w' : World} {v : Value} {B : Nat} (hg : w.grownBy w' v.ownBlock) (h : ∀ g, v.ownBlock = some g → B ≤ g) (hB : B ≤ w.heap.size) : Below B w w' := (Below.refl _ _).grown hg hB h

set_option maxRecDepth 100000 in
set_option maxHeartbeats 16000000 in
theorem bstates_any (vars : List Int) (A : Option Addr) (c : Nat) (w : World) (hv : IntsAt w w.heap.size A vars) (hd : ∀ k, k < vars.length → 1 ≤ nth vars k ∧ nth vars k ≤ 64) (hp : pr vars vars.length ≤ 65536) (hn : vars.length ≤ 64) :
    Calls Try.prog 49 #[.slice A vars.length c] w fun e w' => (∃ v, e = .returned v ∧ GotRows w' v (sts vars)) ∧ Below w.heap.size w w' := by
  obtain ⟨inf, hi, iz0, iz1, iz2⟩ := info_parts infoI6
  obtain ⟨ing, hj, jz0, jz1, jz2⟩ := info_parts infoIs
  have HD := Lib.hid hd
  have HP := Lib.hid hp
  clear hd hp
  go_enter Try.func49, Try.ntmps49
  go_wp2
  go_loopw [3, 14] (fun o i wr => ∃ (k : Nat), k ≤ vars.length ∧ i = .int .i64 k ∧ GotRows wr o (stN vars k) ∧ Below w.heap.size w wr) (fun _ i _ => vars.length - (intOf i).toNat)
  case atStart =>
    refine ⟨0, by omega, rfl, ⟨_, _, rfl, fun _ => ⟨w.heap.size + 1, rfl, by simp, fun k hk => ?_⟩⟩, by repeat (first | exact Below.refl _ _ | refine below_dN ?_ _ | refine Below.drew ?_ | refine Below.alloc ?_ (by first | omega | (simp; done) | (simp; omega)) _ | refine Below.setCell ?_ (by first | omega | (simp; done) | (simp; omega)) _ | refine below_step (by assumption) (by first | omega | (simp; done) | (simp; omega)) ?_)⟩
    have : k = 0 := by simp [stN] at hk; omega
    subst this
    exact ⟨some ⟨w.heap.size, 0, none⟩, 0, by simp [stN, row, World.cell?_alloc_at], (fun e => nomatch e), by simp [stN, row], fun h => absurd h (by simp [stN, row])⟩
  case round =>
    obtain ⟨k, hk, rfl, ⟨O, d, rfl, hrows⟩, hbel⟩ := hrel
    have hbz := hbel.size
    obtain ⟨wb, rfl⟩ : ∃ wb : World, wb = wr := ⟨_, rfl⟩
    by_cases hlt : k < vars.length
    · obtain ⟨b1, o1, rfl, hb1, hc1⟩ := hv.at_ hlt
      have d1 := (hbel.cell (p := ⟨b1, o1 + k, none⟩) hb1).trans (hc1 k hlt)
      clear hc1
      have hdk := HD.out k hlt
      have g1 : b1 < wb.heap.size := by omega
      obtain ⟨m, hm⟩ : ∃ m : Nat, nth vars k = (m : Int) := ⟨(nth vars k).toNat, by omega⟩
      have hS : stN vars (k + 1) = nxL (stN vars k) m ((stN vars k).length * m) := by
        show nxL _ (nth vars k).toNat (_ * (nth vars k).toNat) = _
        rw [hm]; rfl
      have hlen : (stN vars k).length * m ≤ 65536 := by
        have h1 := stN_len (fun k hk => (HD.out k hk).1) (k + 1) (by omega)
        have h2 := pr_mono (fun k hk => (HD.out k hk).1) (show k + 1 ≤ vars.length by omega)
        have h3 := HP.out
        rw [hS, nxL_len] at h1
        omega
      have hrl : ∀ i, i < (stN vars k).length → (row (stN vars k) i).length = k := fun i hi => (stN_row (fun k hk => (HD.out k hk).1) k (by omega) i hi).1
      have HS := Lib.hid hS
      rw [hm] at d1 hdk
      have Hrl := Lib.hid hrl
      generalize stN vars k = L at *
      clear hm hS hrl
      have hll : L.length ≤ 65536 := by
        have : L.length * 1 ≤ L.length * m := Nat.mul_le_mul_left _ (by omega)
        omega
      have Hlen := Lib.hid hlen
      have Hrows := Lib.hid hrows
      clear hlen hrows
      go_wp2
      go_loopw [6, 20] (fun v i wr => ∃ (q : Nat), q ≤ L.length ∧ i = .int .i64 q ∧ Hid (Bld wr wb.heap.size v (nxL L m (q * m))) ∧ Below wb.heap.size wb wr) (fun _ i _ => L.length - (intOf i).toNat)
      case atStart => exact ⟨0, by omega, rfl, Lib.hid (by rw [Nat.zero_mul]; exact Bld.nil _ _), Below.refl _ _⟩
      case round =>
        obtain ⟨q, hq, rfl, hbld, hbx⟩ := hrel
        have hbxz := hbx.size
        by_cases hltq : q < L.length
        · obtain ⟨b2, eO, hb2, hc2⟩ := Hrows.out (by omega)
          subst eO
          obtain ⟨S, cS, f1, f2, f3⟩ := hc2 q hltq
          have d2 := (hbx.cell (p := ⟨b2, q, none⟩) hb2).trans f1
          have g2 : b2 < wr.heap.size := by omega
          have hrq := Hrl.out q hltq
          obtain ⟨s, hs⟩ : ∃ s, s = row L q := ⟨_, rfl⟩
          have hsl : s.length ≤ 64 := by rw [hs, hrq]; omega
          rw [← hs] at d2 f3
          have Hs := Lib.hid hs
          have q0 : (0 : Int) ≤ (q : Int) := by omega
          have q1 : (q : Int) < (L.length : Int) := by omega
          clear hc2 f1 hrq hs
          have Hs3 := Lib.hid f3
          clear f3
          obtain ⟨wc, rfl⟩ : ∃ wc : World, wc = wr := ⟨_, rfl⟩
          have hqm : (q + 1) * m ≤ L.length * m := Nat.mul_le_mul_right _ (by omega)
          have hqm2 : (q + 1) * m = q * m + m := Nat.succ_mul _ _
          have hlen := Hlen.out
          generalize L.length * m = LM at hqm hlen
          go_wp2
          go_loopw [6, 25] (fun v i wr => ∃ (x : Nat), x ≤ m ∧ i = .int .i64 x ∧ Hid (Bld wr wb.heap.size v (nxL L m (q * m + x))) ∧ Below wb.heap.size wb wr) (fun _ i _ => m - (intOf i).toNat)
          case atStart => exact ⟨0, by omega, rfl, hbld, hbx⟩
          case round =>
            obtain ⟨x, hx, rfl, hbld2, hbyb⟩ := hrel
            have hbyz := hbyb.size
            by_cases hltx : x < m
            · obtain ⟨xs, hown, hrs⟩ := hbld2.out
              rw [nxL_len] at hown
              have x0 : (0 : Int) ≤ (x : Int) := by omega
              have x1 : (x : Int) < (m : Int) := by omega
              have hqx : q * m + x ≤ 65536 := by omega
              have Hown := Lib.hid hown
              have Hrs := Lib.hid hrs
              have Hs4 := Lib.hid (Hs3.out.up hbyb)
              obtain ⟨N, hN⟩ : ∃ N, N = q * m + x := ⟨_, rfl⟩
              have HN := Lib.hid hN
              rw [← hN] at hown Hown hqx
              clear hN hown hrs hbld2
              go_wp2_with (first
                | (at_builtin; refine wpList_append_src rfl _ _ 22 rfl wr.heap.size 3 inf (.int .i64 0) 1 8 undI6 hi iz0 iz1 iz2 rfl (by decide) _ 0 [] rfl (World.ownsRow_made wr #[] 0 (Nat.le_refl _) (by simp [maxLen]) rfl) S s.length cS (s.map (.int .i64)) rfl (ints_srcAt (Hs4.out.up (by repeat (first | exact Below.refl _ _ | refine below_dN ?_ _ | refine Below.drew ?_ | refine Below.alloc ?_ (by first | omega | (simp; done) | (simp; omega)) _ | refine Below.setCell ?_ (by first | omega | (simp; done) | (simp; omega)) _ | refine below_step (by assumption) (by first | omega | (simp; done) | (simp; omega)) ?_))) f2) (by unfold maxLen; omega) (by omega) (by simp) ?_; intro v3 w3 hown3 hgrow3 hat3; simp only [Nat.zero_add, List.nil_append] at hown3; have hb3 : Below wr.heap.size wr w3 := grown_below2 (s := 1) (Below.alloc (Below.refl _ _) (Nat.le_refl _) _) (Nat.le_refl _) (World.ownsRow_made wr #[] 0 (Nat.le_refl _) (by simp [maxLen]) rfl) hgrow3; have z3 := hb3.size; have Hown3 := Lib.hid hown3; clear hown3 hgrow3 hat3)
                | (at_builtin; refine wpList_push rfl _ _ 22 rfl wr.heap.size 3 inf (.int .i64 0) 1 8 undI6 hi iz0 iz1 iz2 rfl (by decide) (by decide) v3 s.length (s.map (.int .i64)) rfl (Hown3.out.alloc _) w3.heap.size 3 [.int .i64 (x : Int)] rfl rfl (heap_alloc_new _ _) (one_one rfl) (by omega) (by simp; omega) (B := wr.heap.size) (W := wr) (hb3.alloc z3 _) (Nat.le_refl _) ?_; intro v4 w4 hown4 hgrow4 hat4 hb4; obtain ⟨A4, c4, rfl, hA4⟩ := rowGe_own hown4 (fun i => .int .i64 (nth (s ++ [(x : Int)]) i)) (fun i hi => by have := ic_get (l := s ++ [(x : Int)]) (k := i) (by simp; omega); rwa [← ic_push] at this); have z4 := hb4.size; have HA4 := Lib.hid hA4; clear hown4 hgrow4 hat4 hA4)
                | (at_builtin; refine wpList_push rfl _ _ 96 rfl wb.heap.size 22 ing (.slice none 0 0) 1 24 undIs hj jz0 jz1 jz2 rfl (by decide) (by decide) u6 N xs rfl (own_below Hown.out (hb4.alloc z4 _)) w4.heap.size 22 [.slice A4 (s.length + 1) c4] rfl rfl (heap_alloc_new _ _) (one_one rfl) (by omega) (by simp; omega) (B := wb.heap.size) (W := wb) (hbyb.trans ((hb4.alloc z4 _).mono hbyb.size)) (Nat.le_refl _) ?_; intro v5 w5 hown5 hgrow5 hat5 hb5; have Hown5 := Lib.hid hown5; have Hgrow5 := Lib.hid hgrow5; clear hown5 hgrow5 hat5))
              go_roundw
              case rel =>
                refine ⟨x + 1, by omega, by go_num, Lib.hid ?_, hb5⟩
                · have h1 : nxL L m (q * m + (x + 1)) = nxL L m N ++ [s ++ [(x : Int)]] := by
                    rw [HN.out, ← Nat.add_assoc, nxL_at L hltx rfl, Hs.out]
                  rw [h1]
                  have hb4' := hb4.alloc z4 (.cells #[.slice A4 (s.length + 1) c4] 22)
                  refine bld_push (xs := xs) (S := A4) (c := c4) (l := s ++ [(x : Int)]) (by rw [nxL_len]; exact own_below Hown.out hb4') ?_ ?_ ?_ Hgrow5.out (by rw [nxL_len, List.length_append]; exact Hown5.out)
                  · have := Hrs.out
                    rw [← HN.out] at this
                    exact this.up hb4'
                  · intro e
                    obtain ⟨g, e2, _⟩ := HA4.out (by omega)
                    rw [e] at e2; cases e2
                  · refine ⟨by simp; omega, fun _ => ?_⟩
                    obtain ⟨g, e2, _, hg⟩ := HA4.out (by omega)
                    exact ⟨g, e2, by rw [List.length_append]; exact hg.alloc _⟩
              case measure => simp [intOf]; omega
            · obtain rfl : x = m := by omega
              have hb := hbld2.out
              rw [← hqm2] at hb
              have Hb := Lib.hid hb
              clear hb hbld2
              go_wp2
              go_roundw
              case rel => exact ⟨q + 1, by omega, by go_num, Hb, hbyb⟩
              case measure => simp [intOf]; omega
        · obtain rfl : q = L.length := by omega
          have Hd := Lib.hid (show GotRows wr u6 (stN vars (k + 1)) by rw [HS.out]; exact hbld.out.done)
          go_wp2
          go_roundw
          case rel => exact ⟨k + 1, by omega, by go_num, Hd.out, hbel.trans (hbx.mono hbz)⟩
          case measure => simp [intOf]; omega
    · obtain rfl : k = vars.length := by omega
      have Hr := Lib.hid hrows
      go_wp2
      go_ret
      exact ⟨⟨_, rfl, ⟨O, d, rfl, Hr.out⟩⟩, hbel⟩

end Go.Proofs.Ytenmeiplglbafaa

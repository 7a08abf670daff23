/- The parser's number and fact. -/
import Derived.Test.YtbcbmpnikgeoeaaDoorMpG
import Derived.LoopTactic
namespace Go.Proofs.YtbcbmpnikgeoeaaDoor
set_option linter.unusedSimpArgs false
set_option linter.unusedVariables false
open Go Go.RowKit
open Go.Lib (itoa atoiAll)
set_option linter.unusedVariables false

/-- A value that is the number, if there is one. -/
def NumIs (s : List UInt8) (n : Int) : Prop := ∀ m, numW s = some m → n = m
def FacIs (s : List UInt8) (x : Int × Int) : Prop := ∀ m, facW s = some m → x = m
def NumRet (P L o c : Nat) (ls : List (List UInt8)) (b : Bool) (s : List UInt8) (w : World) (e : Ending) (w' : World) : Prop :=
  ∃ n, e = .returned (.int .i64 n) ∧ NumIs s n ∧ Par w' P L o c ls (b || (numW s).isNone) ∧ Kp1 P w w'
theorem beq_bs (a b : List UInt8) : ((bs a).toList == (bs b).toList) = decide (a = b) := by
  rw [Lib.toList_data, Lib.toList_data, bs_data, bs_data]
  by_cases h : a = b
  · simp [h]
  · simp [h]
theorem num_yes {s : List UInt8} {v : Int} (h : atoiAll s = .ok v) (h1 : s.length ≤ 7) (h2 : itoa v = s) (h3 : 0 ≤ v) : numW s = some v := by
  have hd := (num_good s).1 ⟨v, h, h1, h2, h3⟩
  have e := dig_dec hd
  unfold numW
  rw [if_pos hd]
  have hb : dval 0 s < 10000000 := by
    unfold dgOk at hd
    simp only [Bool.and_eq_true, Bool.or_eq_true, decide_eq_true_eq] at hd
    have := dval_lt s 0 hd.1.1
    have h7 : 10 ^ s.length ≤ 10 ^ 7 := Nat.pow_le_pow_right (by omega) h1
    simp at this; omega
  have h4 := Lib.itoa_length_le
  have e2 : itoa ((dval 0 s : Nat) : Int) = s := by unfold itoa; rw [if_neg (by omega)]; exact e
  have h5 := atoi_itoa ((dval 0 s : Nat) : Int) (by omega) (by omega)
  rw [e2, h] at h5
  injection h5 with h5
  rw [h5]
theorem num_no {s : List UInt8} (h : ¬ ∃ v : Int, atoiAll s = .ok v ∧ s.length ≤ 7 ∧ itoa v = s ∧ 0 ≤ v) : numW s = none := by
  have : ¬ dgOk s = true := fun hd => h ((num_good s).2 hd)
  unfold numW
  rw [if_neg this]
theorem numRet_bad {P L o c : Nat} {ls : List (List UInt8)} {b : Bool} {s : List UInt8} {w w1 : World} {n : Int} (hp : Par w P L o c ls b) (hb : Below w.heap.size w w1) (hn : numW s = none) :
    NumRet P L o c ls b s w (.returned (.int .i64 n)) (w1.setCell ⟨P, 1, none⟩ (.bool true)) :=
  ⟨n, rfl, (fun m h => by rw [hn] at h; cases h), by rw [hn]; simpa using (hp.up hb).bad true, (Kb.of_below hb).trans (Kp1.set _ _ _ _)⟩
theorem numRet_ok {P L o c : Nat} {ls : List (List UInt8)} {b : Bool} {s : List UInt8} {w w1 : World} {n : Int} (hp : Par w P L o c ls b) (hb : Below w.heap.size w w1) (hn : numW s = some n) :
    NumRet P L o c ls b s w (.returned (.int .i64 n)) w1 :=
  ⟨n, rfl, (fun m h => by rw [hn] at h; cases h; rfl), by rw [hn]; simpa using hp.up hb, Kb.of_below hb⟩

set_option maxHeartbeats 2000000 in
theorem pnum_any (P L o c : Nat) (ls : List (List UInt8)) (b : Bool) (s : List UInt8) (w : World) (hp : Par w P L o c ls b) (hs : s.length ≤ 65536) :
    Calls Tryd.prog 43 #[.pointer (some ⟨P, 0, none⟩), .string (bs s)] w (NumRet P L o c ls b s w) := by
  have hE := hp.env.env
  have hz := bs_size s
  have plt := hp.lt
  have f1 := hp.fz 1
  have c1 := hp.c1
  have HP := Lib.hid hp
  by_cases ha : ∃ v, atoiAll s = .ok v
  · obtain ⟨v, ha⟩ := ha
    have hv := Lib.atoiAll_bounds ha
    have ka := fun W => atoi_ok (bs s) v W (by omega) ha
    have ki := fun W (hE : EnvT W) => itoa_any v W hv.1 hv.2 hE
    have kg : numW s = if s.length ≤ 7 ∧ itoa v = s ∧ 0 ≤ v then some v else none := by
      split
      · rename_i h; exact num_yes ha h.1 h.2.1 h.2.2
      · rename_i h; exact num_no (fun ⟨v', h1, h2⟩ => h (by rw [ha] at h1; injection h1 with h1; rw [h1]; exact h2))
    have KA := Lib.hid ka
    have KI := Lib.hid ki
    have HE := Lib.hid hE
    clear ka ki hE ha hp
    by_cases h7 : s.length ≤ 7
    · by_cases hi : itoa v = s
      · have hib : ((itB v).toList == (bs s).toList) = true := by rw [itB_bs, beq_bs, hi]; simp
        have HI := Lib.hid hi
        have KG := Lib.hid kg
        clear hi kg
        by_cases h0 : 0 ≤ v
        · go_enter Tryd.func43, Tryd.ntmps43
          go_wp2_with fail; refine (KA.out _).mono ?_; rintro e w1 ⟨rfl, hb1⟩; obtain ⟨hc1, hf1, hz1, hlt1, hle1⟩ := cellsIf hb1 (by (try simp); exact rfl); (try have : w.heap.size < w1.heap.size := (by omega)); (try have : w.heap.size < w1.heap.size + 1 := (by omega)); (try have : w.heap.size < w1.heap.size + 1 + 1 := (by omega)); (try have : w.heap.size + 1 < w1.heap.size := (by omega)); (try have : w.heap.size + 1 < w1.heap.size + 1 := (by omega)); (try have : w.heap.size + 1 < w1.heap.size + 1 + 1 := (by omega)); (try have : w.heap.size + 1 + 1 < w1.heap.size := (by omega)); (try have : w.heap.size + 1 + 1 < w1.heap.size + 1 := (by omega)); (try have : w.heap.size + 1 + 1 < w1.heap.size + 1 + 1 := (by omega))
          go_wp2_with fail; refine (KI.out _ (HE.out.t.up (by repeat (first | exact Below.refl _ _ | refine below_dN ?_ _ | refine Below.drew ?_ | refine Below.alloc ?_ (by first | omega | (simp; done) | (simp; omega)) _ | refine Below.setCell ?_ (by first | omega | (simp; done) | (simp; omega)) _ | refine below_step (by assumption) (by first | omega | (simp; done) | (simp; omega)) ?_)))).mono ?_; rintro e w2 ⟨rfl, hb2⟩; obtain ⟨hc2, hf2, hz2, hlt2, hle2⟩ := cellsIf hb2 (by (try simp); exact rfl); (try have : w.heap.size < w2.heap.size := (by omega)); (try have : w.heap.size < w2.heap.size + 1 := (by omega)); (try have : w.heap.size < w2.heap.size + 1 + 1 := (by omega)); (try have : w.heap.size + 1 < w2.heap.size := (by omega)); (try have : w.heap.size + 1 < w2.heap.size + 1 := (by omega)); (try have : w.heap.size + 1 < w2.heap.size + 1 + 1 := (by omega)); (try have : w.heap.size + 1 + 1 < w2.heap.size := (by omega)); (try have : w.heap.size + 1 + 1 < w2.heap.size + 1 := (by omega)); (try have : w.heap.size + 1 + 1 < w2.heap.size + 1 + 1 := (by omega)); (try have : w1.heap.size < w2.heap.size := (by omega)); (try have : w1.heap.size < w2.heap.size + 1 := (by omega)); (try have : w1.heap.size < w2.heap.size + 1 + 1 := (by omega)); (try have : w1.heap.size + 1 < w2.heap.size := (by omega)); (try have : w1.heap.size + 1 < w2.heap.size + 1 := (by omega)); (try have : w1.heap.size + 1 < w2.heap.size + 1 + 1 := (by omega)); (try have : w1.heap.size + 1 + 1 < w2.heap.size := (by omega)); (try have : w1.heap.size + 1 + 1 < w2.heap.size + 1 := (by omega)); (try have : w1.heap.size + 1 + 1 < w2.heap.size + 1 + 1 := (by omega))
          go_wp2
          go_ret
          exact numRet_ok HP.out (by repeat (first | exact Below.refl _ _ | refine below_dN ?_ _ | refine Below.drew ?_ | refine Below.alloc ?_ (by first | omega | (simp; done) | (simp; omega)) _ | refine Below.setCell ?_ (by first | omega | (simp; done) | (simp; omega)) _ | refine below_step (by assumption) (by first | omega | (simp; done) | (simp; omega)) ?_)) (by rw [KG.out, if_pos ⟨h7, HI.out, h0⟩])
        · go_enter Tryd.func43, Tryd.ntmps43
          go_wp2_with fail; refine (KA.out _).mono ?_; rintro e w1 ⟨rfl, hb1⟩; obtain ⟨hc1, hf1, hz1, hlt1, hle1⟩ := cellsIf hb1 (by (try simp); exact rfl); (try have : w.heap.size < w1.heap.size := (by omega)); (try have : w.heap.size < w1.heap.size + 1 := (by omega)); (try have : w.heap.size < w1.heap.size + 1 + 1 := (by omega)); (try have : w.heap.size + 1 < w1.heap.size := (by omega)); (try have : w.heap.size + 1 < w1.heap.size + 1 := (by omega)); (try have : w.heap.size + 1 < w1.heap.size + 1 + 1 := (by omega)); (try have : w.heap.size + 1 + 1 < w1.heap.size := (by omega)); (try have : w.heap.size + 1 + 1 < w1.heap.size + 1 := (by omega)); (try have : w.heap.size + 1 + 1 < w1.heap.size + 1 + 1 := (by omega))
          go_wp2_with fail; refine (KI.out _ (HE.out.t.up (by repeat (first | exact Below.refl _ _ | refine below_dN ?_ _ | refine Below.drew ?_ | refine Below.alloc ?_ (by first | omega | (simp; done) | (simp; omega)) _ | refine Below.setCell ?_ (by first | omega | (simp; done) | (simp; omega)) _ | refine below_step (by assumption) (by first | omega | (simp; done) | (simp; omega)) ?_)))).mono ?_; rintro e w2 ⟨rfl, hb2⟩; obtain ⟨hc2, hf2, hz2, hlt2, hle2⟩ := cellsIf hb2 (by (try simp); exact rfl); (try have : w.heap.size < w2.heap.size := (by omega)); (try have : w.heap.size < w2.heap.size + 1 := (by omega)); (try have : w.heap.size < w2.heap.size + 1 + 1 := (by omega)); (try have : w.heap.size + 1 < w2.heap.size := (by omega)); (try have : w.heap.size + 1 < w2.heap.size + 1 := (by omega)); (try have : w.heap.size + 1 < w2.heap.size + 1 + 1 := (by omega)); (try have : w.heap.size + 1 + 1 < w2.heap.size := (by omega)); (try have : w.heap.size + 1 + 1 < w2.heap.size + 1 := (by omega)); (try have : w.heap.size + 1 + 1 < w2.heap.size + 1 + 1 := (by omega)); (try have : w1.heap.size < w2.heap.size := (by omega)); (try have : w1.heap.size < w2.heap.size + 1 := (by omega)); (try have : w1.heap.size < w2.heap.size + 1 + 1 := (by omega)); (try have : w1.heap.size + 1 < w2.heap.size := (by omega)); (try have : w1.heap.size + 1 < w2.heap.size + 1 := (by omega)); (try have : w1.heap.size + 1 < w2.heap.size + 1 + 1 := (by omega)); (try have : w1.heap.size + 1 + 1 < w2.heap.size := (by omega)); (try have : w1.heap.size + 1 + 1 < w2.heap.size + 1 := (by omega)); (try have : w1.heap.size + 1 + 1 < w2.heap.size + 1 + 1 := (by omega))
          go_wp2
          go_ret
          exact numRet_bad HP.out (by repeat (first | exact Below.refl _ _ | refine below_dN ?_ _ | refine Below.drew ?_ | refine Below.alloc ?_ (by first | omega | (simp; done) | (simp; omega)) _ | refine Below.setCell ?_ (by first | omega | (simp; done) | (simp; omega)) _ | refine below_step (by assumption) (by first | omega | (simp; done) | (simp; omega)) ?_)) (by rw [KG.out, if_neg (fun h => by have := h.2.2; omega)])
      · have hib : ((itB v).toList == (bs s).toList) = false := by rw [itB_bs, beq_bs]; simp [hi]
        rw [if_neg (fun h => hi h.2.1)] at kg
        have HI := Lib.hid hi
        have KG := Lib.hid kg
        clear hi kg
        go_enter Tryd.func43, Tryd.ntmps43
        go_wp2_with fail; refine (KA.out _).mono ?_; rintro e w1 ⟨rfl, hb1⟩; obtain ⟨hc1, hf1, hz1, hlt1, hle1⟩ := cellsIf hb1 (by (try simp); exact rfl); (try have : w.heap.size < w1.heap.size := (by omega)); (try have : w.heap.size < w1.heap.size + 1 := (by omega)); (try have : w.heap.size < w1.heap.size + 1 + 1 := (by omega)); (try have : w.heap.size + 1 < w1.heap.size := (by omega)); (try have : w.heap.size + 1 < w1.heap.size + 1 := (by omega)); (try have : w.heap.size + 1 < w1.heap.size + 1 + 1 := (by omega)); (try have : w.heap.size + 1 + 1 < w1.heap.size := (by omega)); (try have : w.heap.size + 1 + 1 < w1.heap.size + 1 := (by omega)); (try have : w.heap.size + 1 + 1 < w1.heap.size + 1 + 1 := (by omega))
        go_wp2_with fail; refine (KI.out _ (HE.out.t.up (by repeat (first | exact Below.refl _ _ | refine below_dN ?_ _ | refine Below.drew ?_ | refine Below.alloc ?_ (by first | omega | (simp; done) | (simp; omega)) _ | refine Below.setCell ?_ (by first | omega | (simp; done) | (simp; omega)) _ | refine below_step (by assumption) (by first | omega | (simp; done) | (simp; omega)) ?_)))).mono ?_; rintro e w2 ⟨rfl, hb2⟩; obtain ⟨hc2, hf2, hz2, hlt2, hle2⟩ := cellsIf hb2 (by (try simp); exact rfl); (try have : w.heap.size < w2.heap.size := (by omega)); (try have : w.heap.size < w2.heap.size + 1 := (by omega)); (try have : w.heap.size < w2.heap.size + 1 + 1 := (by omega)); (try have : w.heap.size + 1 < w2.heap.size := (by omega)); (try have : w.heap.size + 1 < w2.heap.size + 1 := (by omega)); (try have : w.heap.size + 1 < w2.heap.size + 1 + 1 := (by omega)); (try have : w.heap.size + 1 + 1 < w2.heap.size := (by omega)); (try have : w.heap.size + 1 + 1 < w2.heap.size + 1 := (by omega)); (try have : w.heap.size + 1 + 1 < w2.heap.size + 1 + 1 := (by omega)); (try have : w1.heap.size < w2.heap.size := (by omega)); (try have : w1.heap.size < w2.heap.size + 1 := (by omega)); (try have : w1.heap.size < w2.heap.size + 1 + 1 := (by omega)); (try have : w1.heap.size + 1 < w2.heap.size := (by omega)); (try have : w1.heap.size + 1 < w2.heap.size + 1 := (by omega)); (try have : w1.heap.size + 1 < w2.heap.size + 1 + 1 := (by omega)); (try have : w1.heap.size + 1 + 1 < w2.heap.size := (by omega)); (try have : w1.heap.size + 1 + 1 < w2.heap.size + 1 := (by omega)); (try have : w1.heap.size + 1 + 1 < w2.heap.size + 1 + 1 := (by omega))
        go_wp2
        go_ret
        exact numRet_bad HP.out (by repeat (first | exact Below.refl _ _ | refine below_dN ?_ _ | refine Below.drew ?_ | refine Below.alloc ?_ (by first | omega | (simp; done) | (simp; omega)) _ | refine Below.setCell ?_ (by first | omega | (simp; done) | (simp; omega)) _ | refine below_step (by assumption) (by first | omega | (simp; done) | (simp; omega)) ?_)) KG.out
    · rw [if_neg (fun h => h7 h.1)] at kg
      have KG := Lib.hid kg
      clear kg
      go_enter Tryd.func43, Tryd.ntmps43
      go_wp2_with fail; refine (KA.out _).mono ?_; rintro e w1 ⟨rfl, hb1⟩; obtain ⟨hc1, hf1, hz1, hlt1, hle1⟩ := cellsIf hb1 (by (try simp); exact rfl); (try have : w.heap.size < w1.heap.size := (by omega)); (try have : w.heap.size < w1.heap.size + 1 := (by omega)); (try have : w.heap.size < w1.heap.size + 1 + 1 := (by omega)); (try have : w.heap.size + 1 < w1.heap.size := (by omega)); (try have : w.heap.size + 1 < w1.heap.size + 1 := (by omega)); (try have : w.heap.size + 1 < w1.heap.size + 1 + 1 := (by omega)); (try have : w.heap.size + 1 + 1 < w1.heap.size := (by omega)); (try have : w.heap.size + 1 + 1 < w1.heap.size + 1 := (by omega)); (try have : w.heap.size + 1 + 1 < w1.heap.size + 1 + 1 := (by omega))
      go_wp2
      go_ret
      exact numRet_bad HP.out (by repeat (first | exact Below.refl _ _ | refine below_dN ?_ _ | refine Below.drew ?_ | refine Below.alloc ?_ (by first | omega | (simp; done) | (simp; omega)) _ | refine Below.setCell ?_ (by first | omega | (simp; done) | (simp; omega)) _ | refine below_step (by assumption) (by first | omega | (simp; done) | (simp; omega)) ?_)) KG.out
  · have ka := fun W (hE : EnvA W) => atoi_bad (bs s) W (by omega) (fun v hv => ha ⟨v, hv⟩) hE
    have kg := num_no (s := s) (fun ⟨v, h1, h2⟩ => ha ⟨v, h1⟩)
    have KA := Lib.hid ka
    have KG := Lib.hid kg
    have HE := Lib.hid hE
    clear ka kg hE ha hp
    go_enter Tryd.func43, Tryd.ntmps43
    go_wp2_with fail
    refine (KA.out _ (HE.out.a.up (by repeat (first | exact Below.refl _ _ | refine below_dN ?_ _ | refine Below.drew ?_ | refine Below.alloc ?_ (by first | omega | (simp; done) | (simp; omega)) _ | refine Below.setCell ?_ (by first | omega | (simp; done) | (simp; omega)) _ | refine below_step (by assumption) (by first | omega | (simp; done) | (simp; omega)) ?_)))).mono ?_
    rintro e w1 ⟨⟨x, te, pe, rfl⟩, hb1⟩
    obtain ⟨hc1, hf1, hz1, hlt1, hle1⟩ := cellsIf hb1 (by (try simp); exact rfl)
    go_wp2
    go_ret
    exact numRet_bad HP.out (by repeat (first | exact Below.refl _ _ | refine below_dN ?_ _ | refine Below.drew ?_ | refine Below.alloc ?_ (by first | omega | (simp; done) | (simp; omega)) _ | refine Below.setCell ?_ (by first | omega | (simp; done) | (simp; omega)) _ | refine below_step (by assumption) (by first | omega | (simp; done) | (simp; omega)) ?_)) KG.out
def FacRet (P L o c : Nat) (ls : List (List UInt8)) (b : Bool) (s : List UInt8) (w : World) (e : Ending) (w' : World) : Prop :=
  ∃ x y, e = .returned (.agg #[.int .i64 x, .int .i64 y]) ∧ FacIs s (x, y) ∧ Par w' P L o c ls (b || (facW s).isNone) ∧ Kp1 P w w'
theorem facW_or (b : Bool) (s : List UInt8) : ((b || !(Lib.cut s [61]).2.2) || (numW (Lib.cut s [61]).1).isNone || (numW (Lib.cut s [61]).2.1).isNone) = (b || (facW s).isNone) := by
  unfold facW
  cases b <;> cases (Lib.cut s [61]).2.2 <;> cases numW (Lib.cut s [61]).1 <;> cases numW (Lib.cut s [61]).2.1 <;> rfl
theorem facIs_of {s : List UInt8} {x y : Int} (hx : NumIs (Lib.cut s [61]).1 x) (hy : NumIs (Lib.cut s [61]).2.1 y) : FacIs s (x, y) := by
  intro m h
  unfold facW at h
  split at h
  · split at h
    · rename_i a b ha hb
      cases h
      rw [hx a ha, hy b hb]
    · cases h
  · cases h

set_option maxHeartbeats 2000000 in
theorem pfact_any (P L o c : Nat) (ls : List (List UInt8)) (b : Bool) (s : List UInt8) (w : World) (hp : Par w P L o c ls b) (hs : s.length ≤ 65536) :
    Calls Tryd.prog 44 #[.pointer (some ⟨P, 0, none⟩), .string (bs s)] w (FacRet P L o c ls b s w) := by
  have plt := hp.lt
  have f1 := hp.fz 1
  have c1 := hp.c1
  have kc := fun W (hE : EnvM W) => cut_any (bs s) (bs [61]) W (by rw [bs_size]; omega) hE
  have e1 : cutA (bs s) (bs [61]) = bs (Lib.cut s [61]).1 := rfl
  have e2 : cutB (bs s) (bs [61]) = bs (Lib.cut s [61]).2.1 := rfl
  have e3 : cutC (bs s) (bs [61]) = (Lib.cut s [61]).2.2 := rfl
  rw [e1, e2, e3] at kc
  have l1 : (Lib.cut s [61]).1.length ≤ 65536 ∧ (Lib.cut s [61]).2.1.length ≤ 65536 := by
    rcases at_or 61 s with h | ⟨x, y, rfl, h⟩
    · rw [ct_no s h]; exact ⟨hs, by simp⟩
    · rw [ct_at x y h]; simp at hs ⊢; omega
  obtain ⟨l1, l2⟩ := l1
  have hor := facW_or b s
  have his := fun x y => @facIs_of s x y
  generalize (Lib.cut s [61]).1 = A at *
  generalize (Lib.cut s [61]).2.1 = B at *
  generalize (Lib.cut s [61]).2.2 = k at *
  have HP := Lib.hid hp
  have KC := Lib.hid kc
  have HO := Lib.hid hor
  have HI := Lib.hid his
  clear kc e1 e2 e3 hp hor his
  unfold bs at KC
  have fin : ∀ (b1 : Bool) (w1 wq : World), b1 = (b || !k) → Below w.heap.size w w1 → BxI w1 w.heap.size 51 #[.int .i64 0, .int .i64 0] → wq = w1.setCell ⟨P, 1, none⟩ (.bool b1) → Par wq P L o c ls b1 ∧ Kp1 P w wq ∧ BxI wq w.heap.size 51 #[.int .i64 0, .int .i64 0] := by
    rintro b1 w1 wq rfl hb hx rfl
    exact ⟨(HP.out.up hb).bad _, (Kb.of_below hb).trans (Kp1.set _ _ _ _), hx.far (by show w.heap.size ≠ P; omega) _⟩
  have FI := Lib.hid fin
  clear fin
  cases b
  case false =>
    go_enter Tryd.func44, Tryd.ntmps44
    go_wp2_with fail; refine (KC.out _ (HP.out.env.env.m.up (by repeat (first | exact Below.refl _ _ | refine below_dN ?_ _ | refine Below.drew ?_ | refine Below.alloc ?_ (by first | omega | (simp; done) | (simp; omega)) _ | refine Below.setCell ?_ (by first | omega | (simp; done) | (simp; omega)) _ | refine below_step (by assumption) (by first | omega | (simp; done) | (simp; omega)) ?_)))).mono ?_; rintro e w1 ⟨rfl, hb1⟩; obtain ⟨hc1, hf1, hz1, hlt1, hle1⟩ := cellsIf hb1 (by (try simp); exact rfl); (try have : w.heap.size < w1.heap.size := (by omega)); (try have : w.heap.size < w1.heap.size + 1 := (by omega)); (try have : w.heap.size < w1.heap.size + 1 + 1 := (by omega)); (try have : w.heap.size + 1 < w1.heap.size := (by omega)); (try have : w.heap.size + 1 < w1.heap.size + 1 := (by omega)); (try have : w.heap.size + 1 < w1.heap.size + 1 + 1 := (by omega)); (try have : w.heap.size + 1 + 1 < w1.heap.size := (by omega)); (try have : w.heap.size + 1 + 1 < w1.heap.size + 1 := (by omega)); (try have : w.heap.size + 1 + 1 < w1.heap.size + 1 + 1 := (by omega))
    go_wp2_with fail
    obtain ⟨wq, hwq⟩ : ∃ wq : World, w1.setCell ⟨P, 1, none⟩ (.bool (!k)) = wq := ⟨_, rfl⟩
    obtain ⟨hp1, hk1, hx1⟩ := FI.out (!k) w1 wq (by rfl) (by repeat (first | exact Below.refl _ _ | refine below_dN ?_ _ | refine Below.drew ?_ | refine Below.alloc ?_ (by first | omega | (simp; done) | (simp; omega)) _ | refine Below.setCell ?_ (by first | omega | (simp; done) | (simp; omega)) _ | refine below_step (by assumption) (by first | omega | (simp; done) | (simp; omega)) ?_)) ((BxI.new w 51 _).up hb1) hwq.symm
    rw [hwq]
    clear hwq
    refine (pnum_any P L o c ls _ A wq hp1 l1).mono ?_
    rintro e w2 ⟨n, rfl, hn, hp2, hk2⟩
    go_wp2_with fail
    refine (pnum_any P L o c ls _ B w2 hp2 l2).mono ?_
    rintro e w3 ⟨m, rfl, hm, hp3, hk3⟩
    have hx3 := (hx1.kb hk2 (by omega)).kb hk3 (by omega)
    have c30 := hx3.cell 0 _ rfl
    have c31 := hx3.cell 1 _ rfl
    have f30 := hx3.fz 0
    have f31 := hx3.fz 1
    have hkk := (hk1.trans hk2).trans hk3
    have HP3 := Lib.hid hp3
    have HKK := Lib.hid hkk
    clear hp2 hp3 hp1 hk1 hk2 hk3 hkk hx1
    have hlt3 := hx3.lt
    go_wp2
    refine bodyPost_ret (v := .agg #[.int .i64 n, .int .i64 m]) (by simp [results, Tryd.results44, go_sem, ↓IntWalk.iteOmega, *]) rfl ⟨n, m, rfl, HI.out n m hn hm, ?_, ?_⟩
    · rw [← HO.out]; exact (HP3.out.far (p := ⟨w.heap.size, 0, none⟩) plt _).far (p := ⟨w.heap.size, 1, none⟩) plt _
    · exact (HKK.out.set (p := ⟨w.heap.size, 0, none⟩) (.inr (Nat.le_refl _)) _).set (p := ⟨w.heap.size, 1, none⟩) (.inr (Nat.le_refl _)) _
  case true =>
    go_enter Tryd.func44, Tryd.ntmps44
    go_wp2_with fail; refine (KC.out _ (HP.out.env.env.m.up (by repeat (first | exact Below.refl _ _ | refine below_dN ?_ _ | refine Below.drew ?_ | refine Below.alloc ?_ (by first | omega | (simp; done) | (simp; omega)) _ | refine Below.setCell ?_ (by first | omega | (simp; done) | (simp; omega)) _ | refine below_step (by assumption) (by first | omega | (simp; done) | (simp; omega)) ?_)))).mono ?_; rintro e w1 ⟨rfl, hb1⟩; obtain ⟨hc1, hf1, hz1, hlt1, hle1⟩ := cellsIf hb1 (by (try simp); exact rfl); (try have : w.heap.size < w1.heap.size := (by omega)); (try have : w.heap.size < w1.heap.size + 1 := (by omega)); (try have : w.heap.size < w1.heap.size + 1 + 1 := (by omega)); (try have : w.heap.size + 1 < w1.heap.size := (by omega)); (try have : w.heap.size + 1 < w1.heap.size + 1 := (by omega)); (try have : w.heap.size + 1 < w1.heap.size + 1 + 1 := (by omega)); (try have : w.heap.size + 1 + 1 < w1.heap.size := (by omega)); (try have : w.heap.size + 1 + 1 < w1.heap.size + 1 := (by omega)); (try have : w.heap.size + 1 + 1 < w1.heap.size + 1 + 1 := (by omega))
    go_wp2_with fail
    obtain ⟨wq, hwq⟩ : ∃ wq : World, w1.setCell ⟨P, 1, none⟩ (.bool (true)) = wq := ⟨_, rfl⟩
    obtain ⟨hp1, hk1, hx1⟩ := FI.out (true) w1 wq (by rfl) (by repeat (first | exact Below.refl _ _ | refine below_dN ?_ _ | refine Below.drew ?_ | refine Below.alloc ?_ (by first | omega | (simp; done) | (simp; omega)) _ | refine Below.setCell ?_ (by first | omega | (simp; done) | (simp; omega)) _ | refine below_step (by assumption) (by first | omega | (simp; done) | (simp; omega)) ?_)) ((BxI.new w 51 _).up hb1) hwq.symm
    rw [hwq]
    clear hwq
    refine (pnum_any P L o c ls _ A wq hp1 l1).mono ?_
    rintro e w2 ⟨n, rfl, hn, hp2, hk2⟩
    go_wp2_with fail
    refine (pnum_any P L o c ls _ B w2 hp2 l2).mono ?_
    rintro e w3 ⟨m, rfl, hm, hp3, hk3⟩
    have hx3 := (hx1.kb hk2 (by omega)).kb hk3 (by omega)
    have c30 := hx3.cell 0 _ rfl
    have c31 := hx3.cell 1 _ rfl
    have f30 := hx3.fz 0
    have f31 := hx3.fz 1
    have hkk := (hk1.trans hk2).trans hk3
    have HP3 := Lib.hid hp3
    have HKK := Lib.hid hkk
    clear hp2 hp3 hp1 hk1 hk2 hk3 hkk hx1
    have hlt3 := hx3.lt
    go_wp2
    refine bodyPost_ret (v := .agg #[.int .i64 n, .int .i64 m]) (by simp [results, Tryd.results44, go_sem, ↓IntWalk.iteOmega, *]) rfl ⟨n, m, rfl, HI.out n m hn hm, ?_, ?_⟩
    · exact (HP3.out.far (p := ⟨w.heap.size, 0, none⟩) plt _).far (p := ⟨w.heap.size, 1, none⟩) plt _
    · exact (HKK.out.set (p := ⟨w.heap.size, 0, none⟩) (.inr (Nat.le_refl _)) _).set (p := ⟨w.heap.size, 1, none⟩) (.inr (Nat.le_refl _)) _
end Go.Proofs.YtbcbmpnikgeoeaaDoor

/- Texts laid together: TqC, TqD, TqE. -/
import Derived.Test.YtbcbmpnikgeoeaaDoorTqB
import Derived.Deep.DeepCutAuto
namespace Go.Proofs.YtbcbmpnikgeoeaaDoor
set_option linter.unusedSimpArgs false
set_option linter.unusedVariables false
section
open Go Go.RowKit
set_option linter.unusedVariables false

theorem qinfoFa : (Tryd.prog.info? 51).map (fun i => (i.zero, i.size, i.bytes)) = some (some (.agg #[.int .i64 0, .int .i64 0]), 2, 16) := by kernel_rfl
theorem qundFa : Tryd.prog.underlying 24 = some (.slice 51) := by kernel_rfl
theorem qinfoI : (Tryd.prog.info? 3).map (fun i => (i.zero, i.size, i.bytes)) = some (some (.int .i64 0), 1, 8) := by kernel_rfl
theorem qundI : Tryd.prog.underlying 23 = some (.slice 3) := by kernel_rfl
section
variable {w w' : World} {P L o c B s n : Nat} {ls : List (List UInt8)} {b : Bool} {e : TypeId} {v : Value} {xs : List Value}
theorem own_kp (h : w.ownsRow B e s v n xs) (k : Kp1 P w w') (hB : P < B) : w'.ownsRow B e s v n xs :=
  own_kb h k (fun g hg e => by have := (h.lt g hg).1; omega)
theorem Par.grown {row : Option Nat} (h : Par w P L o c ls b) (hg : w.grownBy w' row) (hr : ∀ k, row = some k → P < k) : Par w' P L o c ls b :=
  h.kb (bad := fun b => P < b) ((Kb.refl _ w).grown hg (fun k hk => .inl (hr k hk))) (fun b hb => by omega)
end
/-- What facts answers. -/
def FacsRet (P L o c : Nat) (ls : List (List UInt8)) (b : Bool) (l : List (List UInt8)) (w : World) (e : Ending) (w' : World) : Prop :=
  ∃ A' c' xs, e = .returned (.slice A' xs.length c') ∧ (A' = none → c' = 0) ∧ xs.length = l.length ∧ (∀ f, facsW l = some f → xs = f) ∧ Fac w' (fun b => b < w.heap.size) A' xs ∧ Par w' P L o c ls (b || (facsW l).isNone) ∧ Kp1 P w w'
structure FacsI (P L o c : Nat) (ls : List (List UInt8)) (b : Bool) (l : List (List UInt8)) (w wr : World) (k : Nat) (v : Value) (xs : List (Int × Int)) : Prop where
  own : wr.ownsRow w.heap.size 51 2 v k (fcl xs)
  len : xs.length = k
  is_ : ∀ f, facsW (l.take k) = some f → xs = f
  par : Par wr P L o c ls (b || (facsW (l.take k)).isNone)
  kp : Kp1 P w wr
theorem FacsI.next {P L o c : Nat} {ls : List (List UInt8)} {b : Bool} {l : List (List UInt8)} {w w1 w' : World} {k : Nat} {v v' : Value} {xs : List (Int × Int)} {x y : Int}
    (plt : P < w.heap.size) (hk : k < l.length) (hlen : xs.length = k) (his : ∀ f, facsW (l.take k) = some f → xs = f)
    (hx : FacIs (txt l k) (x, y)) (hp : Par w1 P L o c ls ((b || (facsW (l.take k)).isNone) || (facW (txt l k)).isNone)) (hkp : Kp1 P w w1)
    (hown : w1.ownsRow w.heap.size 51 2 v k (fcl xs))
    (ho : w'.ownsRow w.heap.size 51 2 v' (k + 1) (fcl xs ++ [.int .i64 x, .int .i64 y])) (hg : w1.grownBy w' v.ownBlock) :
    FacsI P L o c ls b l w w' (k + 1) v' (xs ++ [(x, y)]) where
  own := by rw [fcl_app]; exact ho
  len := by rw [List.length_append, hlen]; rfl
  is_ := by
    rw [txt_take hk, facsW_snoc]
    intro f hf
    split at hf
    · rename_i a c e1 e2
      cases hf
      rw [his a e1, hx c e2]
    · cases hf
  par := by
    have e : (b || (facsW (l.take (k + 1))).isNone) = ((b || (facsW (l.take k)).isNone) || (facW (txt l k)).isNone) := by
      rw [txt_take hk, facsW_snoc]
      cases b <;> cases facsW (l.take k) <;> cases facW (txt l k) <;> rfl
    rw [e]
    exact hp.grown hg (fun j hj => by have := (hown.lt j hj).1; omega)
  kp := hkp.grown hg (fun j hj => .inr (hown.lt j hj).1)

set_option maxHeartbeats 4000000 in
theorem pfacts2_any (P L o c : Nat) (ls : List (List UInt8)) (b : Bool) (l : List (List UInt8)) (A : Option Addr) (cA : Nat) (w : World) (hp : Par w P L o c ls b) (hl : StrsAt w (fun b => b = P) A l) :
    Calls Tryd.prog 20 #[.pointer (some ⟨P, 0, none⟩), .slice A l.length cA] w (FacsRet P L o c ls b l w) := by
  have plt := hp.lt
  have l1 := hl.1
  have HL := Lib.hid hl
  have HP := Lib.hid hp
  clear hl hp
  obtain ⟨inf, hi, iz0, iz1, iz2⟩ := info_parts qinfoFa
  go_enter Tryd.func20, Tryd.ntmps20
  go_wp2
  go_loopw [5, 10] (fun v i wr => ∃ (k : Nat) (xs : List (Int × Int)), k ≤ l.length ∧ i = .int .i64 k ∧ FacsI P L o c ls b l w wr k v xs) (fun _ i _ => l.length - (intOf i).toNat)
  case atStart => exact ⟨0, [], by omega, rfl, World.ownsRow_nil _ _ _ _, rfl, (fun f hf => by simp [facsW] at hf; exact hf.symm), by simpa [facsW] using HP.out, Kb.refl _ _⟩
  case round =>
    obtain ⟨k, xs, hk, rfl, hI⟩ := hrel
    have HI := Lib.hid hI
    clear hI
    by_cases hlt : k < l.length
    · obtain ⟨bA, oA, rfl, hbA, hxA, d1⟩ := (HL.out.move HI.out.kp.moves).at_ hlt
      have HP1 := Lib.hid HI.out.par
      go_wp2_with fail
      refine (pfact_any P L o c ls _ (txt l k) wr HP1.out (HL.out.small hlt)).mono ?_
      rintro e w1 ⟨x, y, rfl, hx, hp1, hk1⟩
      have ho1 := own_kp HI.out.own hk1 plt
      have hkk := HI.out.kp.trans hk1
      have hz1 := hkk.size
      have HX := Lib.hid hx
      have HP2 := Lib.hid hp1
      have HK2 := Lib.hid hkk
      clear hx hp1 hk1 hkk
      go_wp2_with (at_builtin; refine wpList_push rfl _ _ 24 rfl w.heap.size 51 inf (.agg #[.int .i64 0, .int .i64 0]) 2 16 qundFa hi iz0 iz1 iz2 rfl (by decide) (by decide) _ k (fcl xs) rfl (ho1.alloc _) w1.heap.size 51 [.int .i64 x, .int .i64 y] rfl rfl (heap_alloc_new _ _) (two_one rfl rfl) (by omega) (by first | omega | (simp; omega)) (B := 0) (Below.refl 0 _) (by omega) ?_; intro v' w8 hown' hgrow hat hbw8)
      go_roundw
      case rel => exact ⟨k + 1, _, by omega, by go_num, FacsI.next plt hlt HI.out.len HI.out.is_ HX.out (HP2.out.alloc _) (HK2.out.alloc _) (ho1.alloc _) hown' hgrow⟩
      case measure => simp [intOf]; omega
    · obtain rfl : k = l.length := by omega
      go_wp2
      go_ret
      obtain ⟨A', c', e1, e2, e3⟩ := own_fac (bad := fun b => b < w.heap.size) HI.out.own HI.out.len.symm (by rw [HI.out.len]; omega) (fun g h1 h2 h3 => by omega)
      refine ⟨A', c', xs, congrArg Ending.returned e1, e2, HI.out.len, ?_, e3, ?_, HI.out.kp⟩
      · have := HI.out.is_; rwa [List.take_length] at this
      · have := HI.out.par; rwa [List.take_length] at this
end

section
open Go Go.RowKit
set_option linter.unusedVariables false

def isR (word : List UInt8) : List (List UInt8) → Bool
  | [] => false
  | l :: _ => isW word l
theorem isW_or {word : List UInt8} (h : (32 : UInt8) ∉ word) (l : List UInt8) : isW word l = (decide (l = word) || Lib.hasPrefix l (word ++ [32])) := by
  unfold isW Lib.hasPrefix
  rcases at_or 32 l with hn | ⟨a, b, rfl, hn⟩
  · rw [pcs_no l hn, List.headD_cons]
    have : (word ++ [32]).isPrefixOf l = false := by
      rw [Bool.eq_false_iff]
      intro hp
      obtain ⟨t, rfl⟩ := List.isPrefixOf_iff_prefix.1 hp
      exact hn (by simp)
    rw [this, Bool.or_false]
  · rw [pcs_at a b hn, List.headD_cons]
    have e1 : ¬ (a ++ 32 :: b = word) := fun e => h (by rw [← e]; simp)
    rw [decide_eq_false e1, Bool.false_or]
    by_cases e : a = word
    · subst e
      rw [decide_eq_true rfl]
      symm
      exact List.isPrefixOf_iff_prefix.2 ⟨b, by simp⟩
    · rw [decide_eq_false e]
      symm
      rw [Bool.eq_false_iff]
      intro hp
      obtain ⟨t, ht⟩ := List.isPrefixOf_iff_prefix.1 hp
      have h1 : pcs 32 (word ++ 32 :: t) = word :: pcs 32 t := pcs_at word t h
      rw [show word ++ 32 :: t = a ++ 32 :: b by rw [← ht]; simp, pcs_at a b hn] at h1
      injection h1 with h1 _
      exact e h1
set_option maxHeartbeats 2000000 in
theorem pis_any (P L o c : Nat) (ls : List (List UInt8)) (b : Bool) (word : List UInt8) (w : World) (hp : Par w P L o c ls b) (hw : (32 : UInt8) ∉ word) (hl : word.length ≤ 100) :
    Calls Tryd.prog 45 #[.pointer (some ⟨P, 0, none⟩), .string (bs word)] w fun e w' => e = .returned (.bool (isR word ls)) ∧ w = w' := by
  have plt := hp.lt
  have c0 := hp.c0
  have hz := bs_size word
  have l1 := hp.len
  have l2 := hp.cap
  cases ls with
  | nil =>
    have HP := Lib.hid hp
    clear hp
    simp only [List.length_nil] at *
    go_enter Tryd.func45, Tryd.ntmps45
    go_wp2
    go_ret
    exact ⟨rfl, rfl⟩
  | cons l r =>
    have d0 := hp.at_ 0 (by simp)
    have l0 := hp.low
    have hg : L < w.heap.size := by omega
    have hb := beq_bs l word
    have ho := isW_or hw l
    have kp := Tryd.strings_HasPrefix (bs l) (bs word ++ ⟨#[32]⟩) 
    have hh : Lib.hasPrefix (bs l).data.toList (bs word ++ ⟨#[32]⟩).data.toList = Lib.hasPrefix l (word ++ [32]) := by
      rw [show (⟨#[32]⟩ : ByteArray) = bs [32] from rfl, bs_app, bs_data, bs_data]
    rw [hh] at kp
    rw [show txt (l :: r) 0 = l from rfl] at d0
    have hz2 : (⟨#[32]⟩ : ByteArray).size = 1 := rfl
    have HP := Lib.hid hp
    have HO := Lib.hid ho
    have KP := Lib.hid kp
    clear hp ho kp hh
    simp only [List.length_cons, Nat.add_zero] at *
    by_cases e : l = word
    · rw [decide_eq_true e] at hb
      have E := Lib.hid e
      clear e
      go_enter Tryd.func45, Tryd.ntmps45
      go_wp2
      go_ret
      refine ⟨?_, rfl⟩
      show _ = Ending.returned (.bool (isW word l))
      rw [HO.out, decide_eq_true E.out]
      rfl
    · rw [decide_eq_false e] at hb
      have E := Lib.hid e
      clear e
      go_enter Tryd.func45, Tryd.ntmps45
      go_wp2_with fail
      refine (KP.out _).mono ?_
      rintro e w2 ⟨rfl, rfl⟩
      go_wp2
      go_ret
      refine ⟨?_, rfl⟩
      show _ = Ending.returned (.bool (isW word l))
      rw [HO.out, decide_eq_false E.out]
      rfl
end

section
open Go Go.RowKit
set_option linter.unusedVariables false

theorem pcs_small (c : UInt8) : ∀ (n : Nat) (s : List UInt8), s.length ≤ n → (pcs c s).length ≤ s.length + 1 ∧ ∀ p ∈ pcs c s, p.length ≤ s.length := by
  intro n
  induction n with
  | zero =>
    intro s hs
    obtain rfl : s = [] := List.eq_nil_of_length_eq_zero (by omega)
    exact ⟨by simp [pcs], by simp [pcs]⟩
  | succ n ih =>
    intro s hs
    rcases at_or c s with h | ⟨a, b, rfl, h⟩
    · rw [pcs_no s h]; exact ⟨by simp, by simp⟩
    · rw [pcs_at a b h]
      obtain ⟨h1, h2⟩ := ih b (by simp at hs; omega)
      refine ⟨by simp; omega, fun p hp => ?_⟩
      rw [List.mem_cons] at hp
      rcases hp with rfl | hp
      · simp
      · have := h2 p hp; simp; omega
/-- The cells of a row of texts. -/
def strV (l : List (List UInt8)) : List Value := l.map fun s => .string (bs s)
theorem psplit_any (c : UInt8) (s : List UInt8) (w : World) (hs : s.length ≤ 65536) (hE : EnvM w) :
    Calls Tryd.prog 18 #[.string (bs s), .string ⟨#[c]⟩] w fun e w' => e = .returned (.slice (some ⟨w.heap.size, 0, none⟩) (pcs c s).length (pcs c s).length) ∧ w' = w.alloc (.cells (strV (pcs c s)).toArray 9) := by
  obtain ⟨m, hm⟩ := hE.max
  refine (Tryd.strings_Split (bs s) ⟨#[c]⟩ m w (by rw [bs_size]; omega) hm (by show 1 ≤ 1; omega)).mono ?_
  rintro e w' ⟨rfl, rfl⟩
  have h1 := countB_pcs c (bs s)
  have h2 := splitB_pcs c (bs s)
  rw [bs_data] at h1 h2
  refine ⟨by rw [h1], ?_⟩
  have h3 : (Lib.splitB ⟨#[c]⟩ 0 (Lib.countB (bs s) ⟨#[c]⟩) (bs s)).map Value.string = strV (pcs c s) := by
    unfold strV
    rw [← h2, List.map_map]
    exact List.map_congr_left fun x _ => by show Value.string x = .string (bs x.data.toList); rw [bs_of]
  rw [h3]
theorem strs_new {w : World} {bad : Nat → Prop} {l : List (List UInt8)} (h1 : l.length ≤ 65537) (h2 : ∀ s ∈ l, s.length ≤ 65536) (hb : ¬ bad w.heap.size) :
    StrsAt (w.alloc (.cells (strV l).toArray 9)) bad (some ⟨w.heap.size, 0, none⟩) l :=
  ⟨h1, h2, fun _ => ⟨w.heap.size, 0, rfl, by simp, hb, fun k hk => by
    rw [cell_of_row _ w.heap.size _ (strV l).toArray _ _ (heap_alloc_new _ _)]
    unfold strV txt
    simp [List.getD, List.getElem?_eq_getElem hk]⟩⟩
/-- Numbers at a good place. -/
def Itf (w : World) (bad : Nat → Prop) (A : Option Addr) (l : List Int) : Prop :=
  l.length ≤ 140737488355328 ∧ (0 < l.length → ∃ b off, A = some ⟨b, off, none⟩ ∧ b < w.heap.size ∧ ¬ bad b ∧ ∀ k, k < l.length → w.cell? ⟨b, off + k, none⟩ = some (.int .i64 (nth l k)))
section
variable {w w' : World} {bad bad' : Nat → Prop} {A : Option Addr} {l : List Int}
theorem Itf.move (h : Itf w bad A l) (m : Moves w w' bad bad') : Itf w' bad' A l :=
  ⟨h.1, fun hn => by
    obtain ⟨b, off, e, hb, hx, hc⟩ := h.2 hn
    exact ⟨b, off, e, Nat.lt_of_lt_of_le hb m.size, fun h2 => hx (m.bad b hb h2), fun k hk => (m.cell (p := ⟨b, _, none⟩) hb hx).trans (hc k hk)⟩⟩
theorem Itf.at_ (h : Itf w bad A l) : IntsAt w w.heap.size A l :=
  ⟨h.1, fun hn => by
    obtain ⟨b, off, e, hb, hx, hc⟩ := h.2 hn
    exact ⟨b, off, e, hb, hc⟩⟩
theorem own_itf {B n : Nat} {v : Value} {e : TypeId} (ho : w.ownsRow B e 1 v n (ic l)) (hn : n = l.length) (hl : l.length ≤ 140737488355328) (hb : ∀ g, B ≤ g → g < w.heap.size → ¬ bad g) :
    ∃ A c, v = .slice A l.length c ∧ (A = none → c = 0) ∧ Itf w bad A l := by
  subst hn
  rcases own_view ho with ⟨rfl, h0⟩ | ⟨g, cap, rfl, hg1, hg2⟩
  · exact ⟨none, 0, by rw [h0], fun _ => rfl, hl, fun hn => absurd hn (by omega)⟩
  · refine ⟨some ⟨g, 0, none⟩, cap, rfl, (fun e => nomatch e), hl, fun _ => ⟨g, 0, rfl, hg2, hb g hg1 hg2, fun k hk => ?_⟩⟩
    have h1 := own_cell ho (ic_get hk)
    simpa using h1
end
def LineRet (P L : Nat) (b : Bool) (x : List (List UInt8) × List (List UInt8) × Bool) (w : World) (e : Ending) (w' : World) : Prop :=
  ∃ A' c' o' c2, e = .returned (.slice A' x.1.length c') ∧ x.1.length ≤ c' ∧ StrsAt w' (fun b => b = P) A' x.1 ∧ Par w' P L o' c2 x.2.1 (b || x.2.2) ∧ Kp1 P w w'

set_option maxHeartbeats 2000000 in
theorem pline_any (P L o c : Nat) (ls : List (List UInt8)) (b : Bool) (word : List UInt8) (w : World) (hp : Par w P L o c ls b) (hw : (32 : UInt8) ∉ word) (hl : word.length ≤ 100) :
    Calls Tryd.prog 21 #[.pointer (some ⟨P, 0, none⟩), .string (bs word)] w (LineRet P L b (lineR word ls) w) := by
  have plt := hp.lt
  have k1 := pis_any P L o c ls b word w hp hw hl
  cases hr : isR word ls with
  | false =>
    rw [hr] at k1
    have e : lineR word ls = ([], ls, true) := by
      cases ls with
      | nil => rfl
      | cons l r =>
        have : isW word l = false := hr
        show (if isW word l = true then _ else _) = _
        rw [this]
        rfl
    rw [e]
    have c1 := hp.c1
    have f1 := hp.fz 1
    have HP := Lib.hid hp
    have K1 := Lib.hid k1
    clear hp k1 hr e
    go_enter Tryd.func21, Tryd.ntmps21
    go_wp2_with fail
    refine K1.out.mono ?_
    rintro e w2 ⟨rfl, rfl⟩
    go_wp2
    go_ret
    exact ⟨none, 0, _, _, rfl, by simp, StrsAt.nil _ _ _, by simpa using HP.out.bad true, Kp1.set _ _ _ _⟩
  | true =>
    rw [hr] at k1
    cases ls with
    | nil => cases hr
    | cons l r =>
      have hW : isW word l = true := hr
      have e : lineR word (l :: r) = ((pcs 32 l).tail, r, false) := by
        show (if isW word l = true then _ else _) = _
        rw [if_pos hW]
      rw [e]
      have c0 := hp.c0
      have d0 := hp.at_ 0 (by simp)
      rw [show txt (l :: r) 0 = l from rfl] at d0
      have l0 := hp.low
      have hg : L < w.heap.size := by omega
      have f0 := hp.fz 0
      have l1 := hp.len
      have l2 := hp.cap
      have k2 := psplit_any 32 l w (hp.sml l (by simp)) hp.env.env.m
      obtain ⟨s1, s2⟩ := pcs_small 32 _ l (Nat.le_refl _)
      have s3 := hp.sml l (by simp)
      obtain ⟨x, ws, hws⟩ : ∃ x ws, pcs 32 l = x :: ws := by
        cases h : pcs 32 l with
        | nil => exact absurd h (pcs_ne 32 l)
        | cons x ws => exact ⟨x, ws, rfl⟩
      rw [hws] at k2 s1 s2 ⊢
      have hsn := strs_new (w := w) (bad := fun b => b = P) (l := x :: ws) (by omega) (fun s hs => Nat.le_trans (s2 s hs) s3) (by omega)
      have HP := Lib.hid hp
      have K1 := Lib.hid k1
      have K2 := Lib.hid k2
      have HS := Lib.hid (hsn.drop 1)
      clear hp k1 hr e hW k2 s2 hws hsn
      have fin : ∀ (A' : Option Addr) (wq : World), (ws = [] ∨ A' = some ⟨w.heap.size, 1, none⟩) → wq = (w.setCell ⟨P, 0, none⟩ (.slice (some ⟨L, o + 1, none⟩) r.length (c - 1))).alloc (.cells (strV (x :: ws)).toArray 9) → LineRet P L b (ws, r, false) w (.returned (.slice A' ws.length ws.length)) wq := by
        rintro A' wq hA rfl
        refine ⟨A', ws.length, o + 1, c - 1, rfl, Nat.le_refl _, ?_, by simpa using HP.out.cut.alloc _, (Kp1.set _ _ _ _).alloc _⟩
        have h1 : StrsAt (w.alloc (.cells (strV (x :: ws)).toArray 9)) (fun b => b = P) (some ⟨w.heap.size, 1, none⟩) ws := HS.out
        have h2 := h1.move (w' := (w.alloc (.cells (strV (x :: ws)).toArray 9)).setCell ⟨P, 0, none⟩ (.slice (some ⟨L, o + 1, none⟩) r.length (c - 1))) (Moves.set (p := ⟨P, 0, none⟩) _ rfl)
        rcases hA with rfl | rfl
        · exact StrsAt.nil _ _ _
        · have e : (w.alloc (.cells (strV (x :: ws)).toArray 9)).setCell ⟨P, 0, none⟩ (.slice (some ⟨L, o + 1, none⟩) r.length (c - 1)) = (w.setCell ⟨P, 0, none⟩ (.slice (some ⟨L, o + 1, none⟩) r.length (c - 1))).alloc (.cells (strV (x :: ws)).toArray 9) := by
            simp [go_sem, ↓IntWalk.iteOmega, plt]
          rw [← e]
          exact h2
      have FI := Lib.hid fin
      clear fin
      simp only [List.length_cons, Nat.add_zero, List.tail_cons] at *
      go_enter Tryd.func21, Tryd.ntmps21
      go_wp2_with fail
      refine K1.out.mono ?_
      rintro e w2 ⟨rfl, rfl⟩
      go_wp2_with fail
      refine K2.out.mono ?_
      rintro e w2 ⟨rfl, rfl⟩
      go_wp2
      all_goals
        go_ret
        first
        | exact FI.out _ _ (.inl (by assumption)) rfl
        | exact FI.out _ _ (.inr rfl) rfl
        | (have h0 : ws = [] := by assumption
           have h1 := FI.out (some ⟨w.heap.size, 0, none⟩) _ (.inl h0) rfl
           rw [h0] at h1
           exact h1)
/-- What numbers answers. -/
def NumsRet (P L : Nat) (b : Bool) (x : List (List UInt8) × List (List UInt8) × Bool) (w : World) (e : Ending) (w' : World) : Prop :=
  ∃ A' c' xs o' c2, e = .returned (.slice A' xs.length c') ∧ (A' = none → c' = 0) ∧ xs.length = x.1.length ∧ (∀ f, numsW x.1 = some f → xs = f) ∧ Itf w' (fun b => b < w.heap.size) A' xs ∧ Par w' P L o' c2 x.2.1 ((b || x.2.2) || (numsW x.1).isNone) ∧ Kp1 P w w'
structure NumsI (P L o c : Nat) (ls : List (List UInt8)) (b : Bool) (l : List (List UInt8)) (B : Nat) (w wr : World) (k : Nat) (v : Value) (xs : List Int) : Prop where
  own : wr.ownsRow B 3 1 v k (ic xs)
  len : xs.length = k
  is_ : ∀ f, numsW (l.take k) = some f → xs = f
  par : Par wr P L o c ls (b || (numsW (l.take k)).isNone)
  kp : Kp1 P w wr
theorem NumsI.next {P L o c B : Nat} {ls : List (List UInt8)} {b : Bool} {l : List (List UInt8)} {w w1 w' : World} {k : Nat} {v v' : Value} {xs : List Int} {x : Int}
    (plt : P < B) (hk : k < l.length) (hlen : xs.length = k) (his : ∀ f, numsW (l.take k) = some f → xs = f)
    (hx : NumIs (txt l k) x) (hp : Par w1 P L o c ls ((b || (numsW (l.take k)).isNone) || (numW (txt l k)).isNone)) (hkp : Kp1 P w w1) (hB : B = w.heap.size)
    (hown : w1.ownsRow B 3 1 v k (ic xs))
    (ho : w'.ownsRow B 3 1 v' (k + 1) (ic xs ++ [.int .i64 x])) (hg : w1.grownBy w' v.ownBlock) :
    NumsI P L o c ls b l B w w' (k + 1) v' (xs ++ [x]) where
  own := by rw [← ic_push]; exact ho
  len := by rw [List.length_append, hlen]; rfl
  is_ := by
    rw [txt_take hk, numsW_snoc]
    intro f hf
    split at hf
    · rename_i a c e1 e2
      cases hf
      rw [his a e1, hx c e2]
    · cases hf
  par := by
    have e : (b || (numsW (l.take (k + 1))).isNone) = ((b || (numsW (l.take k)).isNone) || (numW (txt l k)).isNone) := by
      rw [txt_take hk, numsW_snoc]
      cases b <;> cases numsW (l.take k) <;> cases numW (txt l k) <;> rfl
    rw [e]
    exact hp.grown hg (fun j hj => by have := (hown.lt j hj).1; omega)
  kp := hkp.grown hg (fun j hj => .inr (by have := (hown.lt j hj).1; omega))

set_option maxRecDepth 20000 in
set_option maxHeartbeats 4000000 in
theorem pnums_any' (P L o c : Nat) (ls : List (List UInt8)) (b : Bool) (word : List UInt8) (w : World) (hp : Par w P L o c ls b) (hw : (32 : UInt8) ∉ word) (hl : word.length ≤ 100) :
    Calls Tryd.prog 19 #[.pointer (some ⟨P, 0, none⟩), .string (bs word)] w (NumsRet P L b (lineR word ls) w) := by
  have k1 := pline_any P L o c ls b word w hp hw hl
  have plt := hp.lt
  generalize lineR word ls = x at k1 ⊢
  obtain ⟨l, ls', f⟩ := x
  have K1 := Lib.hid k1
  clear k1 hp
  obtain ⟨inf, hi, iz0, iz1, iz2⟩ := info_parts qinfoI
  go_enter Tryd.func19, Tryd.ntmps19
  go_wp2_with fail
  refine K1.out.mono ?_
  rintro e w1 ⟨A, cA, o', c2, rfl, hcA, hs1, hp1, hk1⟩
  dsimp only at *
  have l1 := hs1.1
  have plt1 := hp1.lt
  have hz1 := hk1.size
  have HL := Lib.hid hs1
  have HP := Lib.hid hp1
  have HK := Lib.hid hk1
  clear hs1 hp1 hk1
  go_wp2
  go_loopw [5, 12] (fun v i wr => ∃ (k : Nat) (xs : List Int), k ≤ l.length ∧ i = .int .i64 k ∧ NumsI P L o' c2 ls' (b || f) l w1.heap.size w1 wr k v xs) (fun _ i _ => l.length - (intOf i).toNat)
  case atStart => exact ⟨0, [], by omega, rfl, World.ownsRow_nil _ _ _ _, rfl, (fun f hf => by simp [numsW] at hf; exact hf.symm), (by rw [show ((b || f) || (numsW (l.take 0)).isNone) = (b || f) by simp [numsW]]; exact HP.out), Kb.refl _ _⟩
  case round =>
    obtain ⟨k, xs, hk, rfl, hI⟩ := hrel
    have HI := Lib.hid hI
    clear hI
    by_cases hlt : k < l.length
    · obtain ⟨bA, oA, rfl, hbA, hxA, d1⟩ := (HL.out.move HI.out.kp.moves).at_ hlt
      have HP1 := Lib.hid HI.out.par
      go_wp2_with fail
      refine (pnum_any P L o' c2 ls' _ (txt l k) wr HP1.out (HL.out.small hlt)).mono ?_
      rintro e w2 ⟨x, rfl, hx, hp2, hk2⟩
      have ho1 := own_kp HI.out.own hk2 plt1
      have hkk := HI.out.kp.trans hk2
      have hz2 := hkk.size
      have HX := Lib.hid hx
      have HP2 := Lib.hid hp2
      have HK2 := Lib.hid hkk
      clear hx hp2 hk2 hkk
      go_wp2_with (at_builtin; refine wpList_push rfl _ _ 23 rfl w1.heap.size 3 inf (.int .i64 0) 1 8 qundI hi iz0 iz1 iz2 rfl (by decide) (by decide) _ k (ic xs) rfl (ho1.alloc _) w2.heap.size 3 [.int .i64 x] rfl rfl (heap_alloc_new _ _) (one_one rfl) (by omega) (by first | omega | (simp; omega)) (B := 0) (Below.refl 0 _) (by omega) ?_; intro v' w8 hown' hgrow hat hbw8)
      go_roundw
      case rel => exact ⟨k + 1, _, by omega, by go_num, NumsI.next plt1 hlt HI.out.len HI.out.is_ HX.out (HP2.out.alloc _) (HK2.out.alloc _) rfl (ho1.alloc _) hown' hgrow⟩
      case measure => simp [intOf]; omega
    · obtain rfl : k = l.length := by omega
      go_wp2
      go_ret
      obtain ⟨A', c', e1, e2, e3⟩ := own_itf (bad := fun b => b < w.heap.size) HI.out.own HI.out.len.symm (by rw [HI.out.len]; omega) (fun g h1 h2 h3 => by omega)
      refine ⟨A', c', xs, o', c2, congrArg Ending.returned e1, e2, HI.out.len, ?_, e3, ?_, HK.out.trans HI.out.kp⟩
      · have := HI.out.is_; rwa [List.take_length] at this
      · have := HI.out.par; rwa [List.take_length] at this
end

end Go.Proofs.YtbcbmpnikgeoeaaDoor

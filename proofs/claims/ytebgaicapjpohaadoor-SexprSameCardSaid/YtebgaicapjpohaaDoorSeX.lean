/- sexpr: next, walked. -/
import Derived.Test.YtebgaicapjpohaaDoorSeW
namespace Go.Proofs.YtebgaicapjpohaaDoor
set_option linter.unusedSimpArgs false
set_option linter.unusedVariables false
open Go Go.RowKit
set_option linter.unusedVariables false

/-- The open lists as the plain reader has them. -/
def opX (os : List Op1) : List Sx := (os.map Op1.x).reverse
theorem opX_app (os : List Op1) (o : Op1) : opX (os ++ [o]) = o.x :: opX os := by unfold opX; simp
/-- What is behind next. -/
def NxtRet (B R : Nat) (s : List UInt8) (k : Nat) (l c : Int) (res : Rd ⊕ Int) (w : World) (e : Ending) (w' : World) : Prop :=
  Below B w w' ∧ match res with
  | .inr code => e = .returned (erV code) ∧ code ≠ 0 ∧ ∃ n' O', RdX w' R (bs s) k l c n' O'
  | .inl t => e = .returned .nilIface ∧ ∃ k' gO cO os, k < k' ∧ k' ≤ s.length ∧ t.rest = s.drop k' ∧ PosOk k' t.pos.1 t.pos.2 ∧ t.nodes ≤ 4096 ∧ os.length ≤ 33 ∧ os ≠ [] ∧ t.open_ = opX os ∧ (∀ o ∈ os, o.x.kids.length ≤ k') ∧
      RdX w' R (bs s) k' t.pos.1 t.pos.2 t.nodes (.slice (some ⟨gO, 0, none⟩) os.length cO) ∧ StkAt B R w' (.slice (some ⟨gO, 0, none⟩) os.length cO) os
theorem StkAt.low {B R : Nat} {w : World} {O : Value} {os : List Op1} (h : StkAt B R w O os) (hR : B ≤ R) : ∀ b, b < B → ¬ bdS R O os b := by
  intro b hb hh
  rcases hh with hh | hh | ⟨o, ho, hh⟩
  · omega
  · have := (h.own.lt b hh).1; omega
  · have := ((h.kid o ho).lt b hh).1; omega
theorem PosOk.far {k j : Nat} {l c : Int} (h : PosOk k l c) (d : Nat) (hj : j = k + d) : PosOk j l (c + d) := by
  unfold PosOk at *; omega
theorem tk_rest (s : List UInt8) (k : Nat) : (s.drop k).dropWhile tokB = s.drop (k + (tkOf s k).length) := by
  unfold tkOf
  have h := List.takeWhile_append_dropWhile (p := tokB) (l := s.drop k)
  have h2 : (s.drop k).drop ((s.drop k).takeWhile tokB).length = (s.drop k).dropWhile tokB := by
    conv => lhs; arg 2; rw [← h]
    rw [List.drop_left]
  rw [← h2, List.drop_drop]
theorem tk_le (s : List UInt8) (k : Nat) (hk : k ≤ s.length) : k + (tkOf s k).length ≤ s.length := by
  have h : (tkOf s k).length ≤ (s.drop k).length := (List.takeWhile_prefix _).length_le
  rw [List.length_drop] at h
  omega
theorem tk_pos {s : List UInt8} {k : Nat} (hk : k < s.length) (h : tokB (bt s k) = true) : 0 < (tkOf s k).length := by
  unfold tkOf
  rw [bt_drop hk, List.takeWhile_cons, if_pos h, List.length_cons]
  omega
/-- A token that is no parenthesis, by the plain reader. -/
theorem next_tok {s : List UInt8} {k : Nat} (hk : k < s.length) {l c : Int} {n : Nat} {q : List Sx} (h1 : bt s k ≠ 40) (h2 : bt s k ≠ 41) :
    nextP (bt s k) (s.drop (k + 1)) ⟨s.drop k, (l, c), n, q⟩ = match tokP (tkOf s k) (l, c) with
      | .inr e => .inr e
      | .inl x => if n = 4096 then .inr 5 else .inl ⟨s.drop (k + (tkOf s k).length), (l, c + (tkOf s k).length), n + 1, addP x q⟩ := by
  unfold nextP
  rw [if_neg h1, if_neg h2]
  have e : bt s k :: s.drop (k + 1) = s.drop k := (bt_drop hk).symm
  rw [e]
  show (match tokP ((s.drop k).takeWhile tokB) (l, c) with
    | .inr e => (Sum.inr e : Rd ⊕ Int)
    | .inl x => if n = 4096 then Sum.inr (5 : Int) else Sum.inl (⟨(s.drop k).dropWhile tokB, (l, c + ((s.drop k).takeWhile tokB).length), n + 1, addP x q⟩ : Rd)) = _
  rw [tk_rest]
  rfl
theorem tokP_ne {t : List UInt8} {p : Int × Int} {e : Int} (h : tokP t p = .inr e) : e ≠ 0 := by
  unfold tokP at h
  split at h
  · split at h
    · cases h
    · cases h; decide
  · split at h
    · cases h
    · cases h; decide
theorem tk_step {c : UInt8} (h : c ≠ 10) (p : Int × Int) : stepP c p = (p.1, p.2 + 1) := if_neg h

set_option maxRecDepth 20000 in
set_option maxHeartbeats 4000000 in
/-- A token. -/
theorem next_tok_any (B R gO m cO : Nat) (s : List UInt8) (k : Nat) (l c : Int) (n : Nat) (init : List Op1) (o : Op1) (w : World)
    (hb : RdX w R (bs s) k l c n (.slice (some ⟨gO, 0, none⟩) (m + 1) cO)) (hk : k < s.length) (hs : s.length ≤ 65536) (hp : PosOk k l c) (hn : n ≤ 4096) (hm : init.length = m) (hms : m ≤ 32) (hks : ∀ o' ∈ init ++ [o], o'.x.kids.length ≤ k)
    (h : StkAt B R w (.slice (some ⟨gO, 0, none⟩) (m + 1) cO) (init ++ [o])) (hR : B ≤ R) (h1 : bt s k ≠ 40) (h2 : bt s k ≠ 41) (h3 : tokB (bt s k) = true) :
    Calls Tryd.prog 15 #[.pointer (some ⟨R, 0, none⟩)] w (NxtRet B R s k l c (nextP (bt s k) (s.drop (k + 1)) ⟨s.drop k, (l, c), n, opX (init ++ [o])⟩) w) := by
  obtain ⟨res, hres⟩ : ∃ res, nextP (bt s k) (s.drop (k + 1)) ⟨s.drop k, (l, c), n, opX (init ++ [o])⟩ = res := ⟨_, rfl⟩
  rw [hres]
  rw [next_tok hk h1 h2] at hres
  have rlt := hb.lt
  have HFIN := Lib.hid (show ∀ wq e w', Below w.heap.size w wq → TokRet B R s k l c n (.slice (some ⟨gO, 0, none⟩) (m + 1) cO) init o wq e w' → ∃ cd, e = .returned (erV cd) ∧ NxtRet B R s k l c res w (.returned (erV cd)) w' from by
    intro wq e w' hbq ht
    obtain ⟨he, hkb, hne, hok⟩ := ht
    refine ⟨_, he, ?_⟩
    have hlow := h.low hR
    have hB : B ≤ w.heap.size := by omega
    have hbl : Below B w w' := (hbq.mono hB).trans (hkb.below hlow (Nat.le_trans hB hbq.size))
    subst hres
    unfold tkE at *
    cases ht : tokP (tkOf s k) (l, c) with
    | inr e2 =>
      rw [ht] at hne
      exact ⟨hbl, rfl, tokP_ne ht, _, _, hne (tokP_ne ht)⟩
    | inl x =>
      rw [ht] at hne
      by_cases hn4 : n = 4096
      · dsimp only at hne ⊢
        rw [if_pos hn4] at hne ⊢
        rw [if_pos hn4]
        exact ⟨hbl, rfl, by decide, _, _, hne (by decide)⟩
      · obtain ⟨hx, K', vs, hst⟩ := hok x ht hn4
        dsimp only
        rw [if_neg hn4, if_neg hn4]
        have hpos := tk_pos hk h3
        have hle := tk_le s k (Nat.le_of_lt hk)
        refine ⟨hbl, rfl, k + (tkOf s k).length, gO, cO, init ++ [⟨o.x.push x, K', o.ks ++ vs⟩], by omega, hle, rfl, PosOk.far hp _ rfl, by show n + 1 ≤ 4096; omega, by simp; omega, by simp, ?_, ?_, ?_, ?_⟩
        · rw [opX_app, opX_app]; rfl
        · intro o' ho'
          rw [List.mem_append, List.mem_singleton] at ho'
          rcases ho' with ho' | ho'
          · have := hks o' (by simp [ho']); omega
          · subst ho'
            have := hks o (by simp)
            show (o.x.kids ++ [x]).length ≤ _
            rw [List.length_append, List.length_singleton]
            omega
        · have e : (init ++ [(⟨o.x.push x, K', o.ks ++ vs⟩ : Op1)]).length = m + 1 := by simp [hm]
          rw [e]
          exact hx
        · have e : (init ++ [(⟨o.x.push x, K', o.ks ++ vs⟩ : Op1)]).length = m + 1 := by simp [hm]
          rw [e]
          exact hst)
  have KT := Lib.hid (fun W hb h => token_any B R gO m cO s k l c n init o W hb (Nat.le_of_lt hk) hs hp hn hm (by omega) (by have := hks o (by simp); omega) h)
  have hz := bs_size s
  have hget : (bs s)[k]'(by omega) = bt s k := bs_get s k (by omega)
  obtain ⟨S, hS⟩ : ∃ S, bs s = S := ⟨_, rfl⟩
  have hkS : k < S.size := by subst hS; omega
  have hget' : S[k] = bt s k := by subst hS; exact hget
  have HS := Lib.hid hS
  rw [hS] at hb KT hz
  have h1' : ¬ S[k].toNat = 40 := fun e => h1 (by rw [← hget']; exact UInt8.toNat_inj.1 e)
  have h2' : ¬ S[k].toNat = 41 := fun e => h2 (by rw [← hget']; exact UInt8.toNat_inj.1 e)
  have hd1 : decide ((S[k].toNat : Int) = 40) = false := by simp; omega
  have hd2 : decide ((S[k].toNat : Int) = 41) = false := by simp; omega
  have c0 := RdX.c0 hb
  have c1 := RdX.c1 hb
  have HB := Lib.hid hb
  have H := Lib.hid h
  have HK := Lib.hid hks
  have HP := Lib.hid hp
  clear hres hget hget' hS hb h hks hp h1 h2 h3
  go_enter Tryd.func15, Tryd.ntmps15
  go_wp2_with fail
  go_quiet (fail)
  go_wp2_with fail
  refine (KT.out _ (HB.out.up (by repeat (first | exact Below.refl _ _ | refine below_dN ?_ _ | refine Below.drew ?_ | refine Below.alloc ?_ (by first | omega | (simp; done) | (simp; omega)) _ | refine Below.setCell ?_ (by first | omega | (simp; done) | (simp; omega)) _ | refine below_step (by assumption) (by first | omega | (simp; done) | (simp; omega)) ?_))) (H.out.up (by repeat (first | exact Below.refl _ _ | refine below_dN ?_ _ | refine Below.drew ?_ | refine Below.alloc ?_ (by first | omega | (simp; done) | (simp; omega)) _ | refine Below.setCell ?_ (by first | omega | (simp; done) | (simp; omega)) _ | refine below_step (by assumption) (by first | omega | (simp; done) | (simp; omega)) ?_)))).mono ?_
  intro e w2 ht
  obtain ⟨cd, rfl, hfin⟩ := HFIN.out _ _ _ (by repeat (first | exact Below.refl _ _ | refine below_dN ?_ _ | refine Below.drew ?_ | refine Below.alloc ?_ (by first | omega | (simp; done) | (simp; omega)) _ | refine Below.setCell ?_ (by first | omega | (simp; done) | (simp; omega)) _ | refine below_step (by assumption) (by first | omega | (simp; done) | (simp; omega)) ?_)) ht
  have HFI := Lib.hid hfin
  clear ht hfin
  go_wp2
  refine bodyPost_ret (v := erV cd) (by simp [results, Tryd.results15, go_sem, ↓IntWalk.iteOmega, *]) rfl HFI.out
end Go.Proofs.YtebgaicapjpohaaDoor

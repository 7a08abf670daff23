/- sexpr: next at any byte; plain for Read. -/
import Derived.Test.YtebgaicapjpohaaDoorSeZ
namespace Go.Proofs.YtebgaicapjpohaaDoor
set_option linter.unusedSimpArgs false
set_option linter.unusedVariables false
open Go Go.RowKit
set_option linter.unusedVariables false

theorem next_any (B R gO cO : Nat) (s : List UInt8) (k : Nat) (l c : Int) (n : Nat) (os : List Op1) (w : World)
    (hb : RdX w R (bs s) k l c n (.slice (some ⟨gO, 0, none⟩) os.length cO)) (hk : k < s.length) (hs : s.length ≤ 65536) (hp : PosOk k l c) (hn : n ≤ 4096) (hms : os.length ≤ 33) (h0 : os ≠ []) (hks : ∀ o' ∈ os, o'.x.kids.length ≤ k)
    (h : StkAt B R w (.slice (some ⟨gO, 0, none⟩) os.length cO) os) (hR : B ≤ R) (h1 : sepB (bt s k) = false) (h2 : bt s k ≠ 59) :
    Calls Tryd.prog 15 #[.pointer (some ⟨R, 0, none⟩)] w (NxtRet B R s k l c (nextP (bt s k) (s.drop (k + 1)) ⟨s.drop k, (l, c), n, opX os⟩) w) := by
  by_cases e1 : bt s k = 40
  · exact next_open_any B R gO cO s k l c n os w hb hk hs hp hn hms hks h hR e1
  · obtain ⟨init, o, rfl⟩ : ∃ init o, os = init ++ [o] := by
      rcases List.eq_nil_or_concat os with e | ⟨a, b, e⟩
      · exact absurd e h0
      · exact ⟨a, b, by simpa using e⟩
    have hl : (init ++ [o]).length = init.length + 1 := by simp
    rw [hl] at hb h hms
    by_cases e2 : bt s k = 41
    · exact next_close_any B R gO init.length cO s k l c n init o w hb hk hs hp hn rfl (by omega) hks h hR e2
    · refine next_tok_any B R gO init.length cO s k l c n init o w hb hk hs hp hn rfl (by omega) hks h hR e1 e2 ?_
      unfold tokB
      rw [h1]
      simp [e1, e2, h2]
/-- The run behind a skip. -/
def runS (f : Nat) (x : List UInt8 × Int × Int) (n : Nat) (q : List Sx) : List Sx ⊕ (Int × Int × Int) := match x with
  | ([], p) => match q with
    | [x] => .inl x.kids
    | x :: _ => .inr (x.line, x.column, 2)
    | [] => .inr (0, 0, 0)
  | (c :: r, p) => match nextP c r ⟨c :: r, p, n, q⟩ with
    | .inr e => .inr (p.1, p.2, e)
    | .inl t => runP f t
theorem runP_S (f : Nat) (s : Rd) : runP (f + 1) s = runS f (skipP false s.rest s.pos) s.nodes s.open_ := by
  rw [runP]
  unfold runS
  rcases skipP false s.rest s.pos with ⟨r, p⟩
  cases r with
  | nil => rfl
  | cons c r => rfl
theorem skip_head : ∀ (x : List UInt8) (b : Bool) (p : Int × Int) (c : UInt8) (r : List UInt8) (q : Int × Int), skipP b x p = (c :: r, q) → sepB c = false ∧ c ≠ 59
  | [], b, p, c, r, q, h => by rw [skip_nil] at h; cases h
  | d :: x, false, p, c, r, q, h => by
    rw [skipP] at h
    split at h
    · exact skip_head x false _ c r q h
    · split at h
      · exact skip_head x true _ c r q h
      · rename_i h1 h2
        injection h with h3 h4
        injection h3 with h3 h5
        subst h3
        exact ⟨by cases e : sepB d with
          | true => exact absurd e h1
          | false => rfl, h2⟩
  | d :: x, true, p, c, r, q, h => by
    rw [skipP] at h
    split at h
    · exact skip_head x false _ c r q h
    · exact skip_head x true _ c r q h
theorem run_more {s : List UInt8} {k f n : Nat} {p : Int × Int} {q : List Sx} (hk : k < s.length) : runS f (s.drop k, p) n q = match nextP (bt s k) (s.drop (k + 1)) ⟨s.drop k, p, n, q⟩ with
    | .inr e => .inr (p.1, p.2, e)
    | .inl t => runP f t := by
  rw [bt_drop hk]
  rfl
/-- A row of expressions as a result. -/
def GotSx (w : World) (V : Value) (l : List Sx) : Prop := ∃ A cap, V = .slice A l.length cap ∧ (A = none → cap = 0) ∧ l.length ≤ cap ∧ RowAt w (fun _ => False) A 0 l
theorem gotSx_of {w : World} {k v l c : Int} {t : List UInt8} {kids : List Sx} {K : Value} (h : SxIs w (fun _ => False) [.int .i64 k, .int .i64 v, .int .i64 l, .int .i64 c, .string (bs t), K] (.mk k v l c t kids)) : GotSx w K kids := by
  unfold SxIs at h
  obtain ⟨A, cap, h1, h2, h3, h4⟩ := h
  injection h1 with _ h1
  injection h1 with _ h1
  injection h1 with _ h1
  injection h1 with _ h1
  injection h1 with _ h1
  injection h1 with h1 _
  exact ⟨A, cap, h1, h2, h3, h4⟩
/-- What Read returns. -/
def ReadRet (s : List UInt8) (w : World) (e : Ending) (w' : World) : Prop := Below w.heap.size w w' ∧ match readP s with
  | .inl l => ∃ V, e = .returned (.tuple #[V, .int .i64 0, .int .i64 0, .nilIface]) ∧ GotSx w' V l
  | .inr (l, c, cd) => e = .returned (.tuple #[.slice none 0 0, .int .i64 l, .int .i64 c, erV cd]) ∧ cd ≠ 0
/-- The state of the loop of Read. -/
def LpR (R : Nat) (s : List UInt8) (w wr : World) (k : Nat) (l c : Int) (n gO cO : Nat) (os : List Op1) (f : Nat) : Prop :=
  k ≤ s.length ∧ PosOk k l c ∧ n ≤ 4096 ∧ os.length ≤ 33 ∧ os ≠ [] ∧ (∀ o ∈ os, o.x.kids.length ≤ k) ∧ RdX wr R (bs s) k l c n (.slice (some ⟨gO, 0, none⟩) os.length cO) ∧ StkAt w.heap.size R wr (.slice (some ⟨gO, 0, none⟩) os.length cO) os ∧
  Below w.heap.size w wr ∧ readP s = runS f (s.drop k, (l, c)) n (opX os) ∧ s.length ≤ f + k ∧ (k < s.length → sepB (bt s k) = false ∧ bt s k ≠ 59)
theorem lpR_start {R : Nat} {s : List UInt8} {w wa wr : World} {gO cO : Nat} {os : List Op1} {k : Nat} {l c : Int} {n f : Nat} (hR : w.heap.size ≤ R) (hk : k ≤ s.length) (hn : n ≤ 4096) (hm : os.length ≤ 33) (h0 : os ≠ []) (hks : ∀ o ∈ os, o.x.kids.length ≤ k)
    (hst : StkAt w.heap.size R wa (.slice (some ⟨gO, 0, none⟩) os.length cO) os) (hb : Below w.heap.size w wa) (hr : readP s = runP (f + 1) ⟨s.drop k, (l, c), n, opX os⟩) (hf : s.length ≤ f + k) {e : Ending}
    (h : SkRet R s k (skipP false (s.drop k) (l, c)) n (.slice (some ⟨gO, 0, none⟩) os.length cO) wa e wr) : e = .returned (.tuple #[]) ∧ ∃ k' l' c', k ≤ k' ∧ LpR R s w wr k' l' c' n gO cO os f := by
  obtain ⟨he, ⟨k', h1, h2, h3, h4, h5⟩, h6⟩ := h
  refine ⟨he, k', _, _, h1, h2, h5, hn, hm, h0, fun o ho => Nat.le_trans (hks o ho) h1, h4, hst.box h6, hb.trans (h6.below (fun b hb e => by omega) hb.size), ?_, by omega, fun hlt => ?_⟩
  · rw [hr, runP_S]
    dsimp only
    rw [h3]
  · have e : skipP false (s.drop k) (l, c) = (bt s k' :: s.drop (k' + 1), (skipP false (s.drop k) (l, c)).2) := by
      rw [← bt_drop hlt, h3]
    exact skip_head _ _ _ _ _ _ e
end Go.Proofs.YtebgaicapjpohaaDoor

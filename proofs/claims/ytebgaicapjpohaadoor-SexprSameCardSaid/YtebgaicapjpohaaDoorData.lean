/- Data in memory: lists of numbers, of facts; what reads them is kept by calls that leave what was there. -/
import Derived.Test.YtebgaicapjpohaaDoorBase
namespace Go.Proofs.YtebgaicapjpohaaDoor
set_option linter.unusedSimpArgs false
set_option linter.unusedVariables false
open Go.RowKit

/-- The k-th number; the k-th fact's variable and value. (Behind names: simp would write them otherwise.) -/
def nth (l : List Int) (k : Nat) : Int := l.getD k 0
def fv (l : List (Int × Int)) (k : Nat) : Int := (l.getD k (0, 0)).1
def fx (l : List (Int × Int)) (k : Nat) : Int := (l.getD k (0, 0)).2

/-- A slice (address A) whose cells, all below block B, are the numbers l. -/
def IntsAt (w : World) (B : Nat) (A : Option Addr) (l : List Int) : Prop :=
  l.length ≤ 140737488355328 ∧ (0 < l.length → ∃ b off, A = some ⟨b, off, none⟩ ∧ b < B ∧ ∀ k, k < l.length → w.cell? ⟨b, off + k, none⟩ = some (.int .i64 (nth l k)))
/-- A slice of facts (two cells each). -/
def FactsAt (w : World) (B : Nat) (A : Option Addr) (l : List (Int × Int)) : Prop :=
  l.length ≤ 140737488355328 ∧ (0 < l.length → ∃ b off, A = some ⟨b, off, none⟩ ∧ b < B ∧ ∀ k, k < l.length → w.cell? ⟨b, off + k * 2, none⟩ = some (.int .i64 (fv l k)) ∧ w.cell? ⟨b, off + k * 2 + 1, none⟩ = some (.int .i64 (fx l k)))

section
variable {w w' : World} {B B' : Nat} {A : Option Addr}
theorem IntsAt.len {l : List Int} (h : IntsAt w B A l) : l.length ≤ 140737488355328 := h.1
theorem IntsAt.at_ {l : List Int} (h : IntsAt w B A l) {k : Nat} (hk : k < l.length) : ∃ b off, A = some ⟨b, off, none⟩ ∧ b < B ∧ ∀ k, k < l.length → w.cell? ⟨b, off + k, none⟩ = some (.int .i64 (nth l k)) := h.2 (by omega)
theorem IntsAt.keep {l : List Int} (h : IntsAt w B A l) (hk : ∀ p : Addr, p.block < B → w'.cell? p = w.cell? p) (hB : B ≤ B') : IntsAt w' B' A l :=
  ⟨h.1, fun hn => by
    obtain ⟨b, off, e, hb, hc⟩ := h.2 hn
    exact ⟨b, off, e, by omega, fun k hlt => (hk _ hb).trans (hc k hlt)⟩⟩
theorem IntsAt.below {l : List Int} (h : IntsAt w B A l) (hb : Below B w w') : IntsAt w' B A l := h.keep (fun _ hp => hb.cell hp) (Nat.le_refl _)
theorem FactsAt.len {l : List (Int × Int)} (h : FactsAt w B A l) : l.length ≤ 140737488355328 := h.1
theorem FactsAt.at_ {l : List (Int × Int)} (h : FactsAt w B A l) {k : Nat} (hk : k < l.length) : ∃ b off, A = some ⟨b, off, none⟩ ∧ b < B ∧ ∀ k, k < l.length → w.cell? ⟨b, off + k * 2, none⟩ = some (.int .i64 (fv l k)) ∧ w.cell? ⟨b, off + k * 2 + 1, none⟩ = some (.int .i64 (fx l k)) := h.2 (by omega)
theorem FactsAt.keep {l : List (Int × Int)} (h : FactsAt w B A l) (hk : ∀ p : Addr, p.block < B → w'.cell? p = w.cell? p) (hB : B ≤ B') : FactsAt w' B' A l :=
  ⟨h.1, fun hn => by
    obtain ⟨b, off, e, hb, hc⟩ := h.2 hn
    exact ⟨b, off, e, by omega, fun k hlt => ⟨(hk _ hb).trans (hc k hlt).1, (hk _ hb).trans (hc k hlt).2⟩⟩⟩
theorem FactsAt.below {l : List (Int × Int)} (h : FactsAt w B A l) (hb : Below B w w') : FactsAt w' B A l := h.keep (fun _ hp => hb.cell hp) (Nat.le_refl _)
end

/-- A state has a value in range for each variable. -/
def StP (vars s : List Int) : Prop := s.length = vars.length ∧ ∀ k, k < s.length → 0 ≤ nth s k ∧ nth s k < nth vars k
instance (vars s : List Int) : Decidable (StP vars s) := by unfold StP; exact inferInstance
def stB (vars s : List Int) : Bool := decide (StP vars s)
/-- Facts strictly ascending by variable, in range. -/
def FaP (vars : List Int) (f : List (Int × Int)) : Prop := ∀ k, k < f.length →
  0 ≤ (fv f k) ∧ (fv f k) < vars.length ∧ 0 ≤ (fx f k) ∧ (fx f k) < nth vars (fv f k).toNat ∧ (0 < k → fv f (k - 1) < (fv f k))
instance (vars : List Int) (f : List (Int × Int)) : Decidable (FaP vars f) := by unfold FaP; exact inferInstance
def faB (vars : List Int) (f : List (Int × Int)) : Bool := decide (FaP vars f)
/-- All facts hold. -/
def HoP (f : List (Int × Int)) (s : List Int) : Prop := ∀ k, k < f.length → 0 ≤ (fv f k) ∧ (fv f k) < s.length ∧ nth s (fv f k).toNat = (fx f k)
instance (f : List (Int × Int)) (s : List Int) : Decidable (HoP f s) := by unfold HoP; exact inferInstance
def hoB (f : List (Int × Int)) (s : List Int) : Bool := decide (HoP f s)

end Go.Proofs.YtebgaicapjpohaaDoor

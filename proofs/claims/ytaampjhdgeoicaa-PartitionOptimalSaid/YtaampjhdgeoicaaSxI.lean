/- simplex: Dot. -/
import Derived.Test.YtaampjhdgeoicaaSxX
namespace Go.Proofs.Ytaampjhdgeoicaa
set_option linter.unusedSimpArgs false
set_option linter.unusedVariables false
open Go Go.RowKit
set_option linter.unusedVariables false

/-- The first k products added up, or the first error. -/
def dk (a b : List (Int × Int)) : Nat → Int × Int × Int
  | 0 => (0, 1, 0)
  | k + 1 =>
    if (dk a b k).2.2 ≠ 0 then dk a b k
    else if (mulF (fv a k) (fx a k) (fv b k) (fx b k)).2.2 ≠ 0 then (0, 0, (mulF (fv a k) (fx a k) (fv b k) (fx b k)).2.2)
    else if (addF (dk a b k).1 (dk a b k).2.1 (mulF (fv a k) (fx a k) (fv b k) (fx b k)).1 (mulF (fv a k) (fx a k) (fv b k) (fx b k)).2.1).2.2 ≠ 0 then (0, 0, (addF (dk a b k).1 (dk a b k).2.1 (mulF (fv a k) (fx a k) (fv b k) (fx b k)).1 (mulF (fv a k) (fx a k) (fv b k) (fx b k)).2.1).2.2)
    else addF (dk a b k).1 (dk a b k).2.1 (mulF (fv a k) (fx a k) (fv b k) (fx b k)).1 (mulF (fv a k) (fx a k) (fv b k) (fx b k)).2.1
def dotF (a b : List (Int × Int)) : Int × Int × Int := if a.length = b.length then dk a b a.length else (0, 0, 11)
section
variable {a b : List (Int × Int)} {k : Nat} {n d p q r s c : Int}
theorem dk_mul (h : dk a b k = (n, d, 0)) (hm : mulF (fv a k) (fx a k) (fv b k) (fx b k) = (p, q, c)) (hc : c ≠ 0) : dk a b (k + 1) = (0, 0, c) := by
  unfold dk
  rw [h, hm]
  simp [hc]
theorem dk_add (h : dk a b k = (n, d, 0)) (hm : mulF (fv a k) (fx a k) (fv b k) (fx b k) = (p, q, 0)) (ha : addF n d p q = (r, s, c)) (hc : c ≠ 0) : dk a b (k + 1) = (0, 0, c) := by
  unfold dk
  rw [h, hm]
  simp [ha, hc]
theorem dk_ok (h : dk a b k = (n, d, 0)) (hm : mulF (fv a k) (fx a k) (fv b k) (fx b k) = (p, q, 0)) (ha : addF n d p q = (r, s, 0)) : dk a b (k + 1) = (r, s, 0) := by
  unfold dk
  rw [h, hm]
  simp [ha]
theorem dk_stay (h : dk a b k = (n, d, c)) (hc : c ≠ 0) : ∀ j, dk a b (k + j) = (n, d, c)
  | 0 => h
  | j + 1 => by
    have ih := dk_stay h hc j
    rw [← Nat.add_assoc]
    unfold dk
    rw [ih]
    simp [hc]
theorem dot_end (h1 : a.length = b.length) (h : dk a b k = (n, d, c)) (hc : c ≠ 0) (hk : k ≤ a.length) : dotF a b = (n, d, c) := by
  unfold dotF
  rw [if_pos h1]
  have := dk_stay h hc (a.length - k)
  rwa [show k + (a.length - k) = a.length by omega] at this
end

end Go.Proofs.Ytaampjhdgeoicaa

/- Linear programs, plain: a bound on the sum, multiples, a row that is implied. -/
import Derived.Test.YtaampjhdgeoicaaMfC
namespace Go.Proofs.Ytaampjhdgeoicaa
set_option linter.unusedSimpArgs false
set_option linter.unusedVariables false
set_option linter.unusedVariables false

section
variable {n m : Nat} {A A' : Nat → Nat → Rat} {b b' c c' : Nat → Rat}
theorem obj_lin (f x d : Nat → Rat) (y : Rat) : obj n f (fun j => x j + y * d j) = obj n f x + y * obj n f d := by
  unfold obj
  rw [← sg_mul, ← sg_add]
  exact sg_congr n fun j _ => by grind
theorem ray_nn {u v : Rat} (h : ∀ y : Rat, 0 ≤ y → 0 ≤ u + y * v) : 0 ≤ v := by
  by_cases h1 : 0 ≤ v
  · exact h1
  · have h0 := h 0 Rat.le_refl
    have h2 : 0 < -v := by grind
    have h3 := h ((u + 1) / -v) (div_nonneg' (by grind) h2)
    have h4 : (u + 1) / -v * -v = u + 1 := by grind
    grind
/-- A direction in which the objective grows without end. -/
structure Ray (n m : Nat) (A : Nat → Nat → Rat) (c d : Nat → Rat) : Prop where
  nn : ∀ j, j < n → 0 ≤ d j
  le : ∀ i, i < m → obj n (A i) d ≤ 0
  pos : 0 < obj n c d
theorem unb_ray (h : Unb n m A b c) : ∃ d, Ray n m A c d := by
  obtain ⟨x, d, h1, h2⟩ := h
  refine ⟨d, fun j hj => ray_nn (u := x j) fun y hy => (h1 y hy).1 j hj, fun i hi => ?_, h2⟩
  have := ray_nn (u := b i - obj n (A i) x) (v := -obj n (A i) d) fun y hy => by
    have h3 := (h1 y hy).2 i hi
    rw [obj_lin] at h3
    grind
  grind
theorem ray_pf {d x : Nat → Rat} (h : Ray n m A c d) (hx : PF n m A b x) {y : Rat} (hy : 0 ≤ y) : PF n m A b (fun j => x j + y * d j) := by
  refine ⟨fun j hj => ?_, fun i hi => ?_⟩
  · have h1 := hx.1 j hj
    have h2 := Rat.mul_nonneg hy (h.nn j hj)
    grind
  · rw [obj_lin]
    have h1 := hx.2 i hi
    have h2 := Rat.mul_nonneg hy (show 0 ≤ -obj n (A i) d by have := h.le i hi; grind)
    grind
theorem ray_not {d : Nat → Rat} {v : Rat} (h : Ray n m A c d) (h' : OptV n m A b c v) : False := by
  obtain ⟨x, hx, _⟩ := h'.ex
  exact unb_not ⟨x, d, fun y hy => ray_pf h hx hy, h.pos⟩ h'
theorem sg_ge_one {f : Nat → Rat} : ∀ {n k : Nat}, (∀ i, i < n → 0 ≤ f i) → k < n → f k ≤ sg n f
  | n + 1, k, h, hk => by
    show f k ≤ sg n f + f n
    have h0 := sg_nonneg n (fun i hi => h i (by omega))
    by_cases e : k = n
    · subst e; grind
    · have h1 := sg_ge_one (f := f) (n := n) (k := k) (fun i hi => h i (by omega)) (by omega)
      have h2 := h n (by omega)
      grind
theorem sg_pos_of {d : Nat → Rat} (hd : ∀ j, j < n → 0 ≤ d j) (h : 0 < obj n c d) : 0 < sg n d := by
  by_cases h0 : 0 < sg n d
  · exact h0
  · have h1 : obj n c d = 0 := sg_zero' fun j hj => by
      have := sg_ge_one hd hj
      have := hd j hj
      have e : d j = 0 := by grind
      rw [e]; grind
    rw [h1] at h
    exact absurd h (by decide)
/-- The program with one row more. -/
structure More (n m : Nat) (A : Nat → Nat → Rat) (b : Nat → Rat) (A' : Nat → Nat → Rat) (b' : Nat → Rat) (r : Nat → Rat) (β : Rat) : Prop where
  a : ∀ i, i < m → ∀ j, j < n → A' i j = A i j
  b : ∀ i, i < m → b' i = b i
  a1 : ∀ j, j < n → A' m j = r j
  b1 : b' m = β
theorem obj_congr {f g x : Nat → Rat} (h : ∀ j, j < n → f j = g j) : obj n f x = obj n g x := sg_congr n fun j hj => by rw [h j hj]
theorem more_pf {r : Nat → Rat} {β : Rat} (h : More n m A b A' b' r β) (x : Nat → Rat) : PF n (m + 1) A' b' x ↔ PF n m A b x ∧ obj n r x ≤ β := by
  constructor
  · intro hx
    refine ⟨⟨hx.1, fun i hi => ?_⟩, ?_⟩
    · have := hx.2 i (by omega)
      rwa [obj_congr (h.a i hi), h.b i hi] at this
    · have := hx.2 m (by omega)
      rwa [obj_congr h.a1, h.b1] at this
  · rintro ⟨hx, h2⟩
    refine ⟨hx.1, fun i hi => ?_⟩
    by_cases e : i = m
    · subst e
      rwa [obj_congr h.a1, h.b1]
    · rw [obj_congr (h.a i (by omega)), h.b i (by omega)]
      exact hx.2 i (by omega)
theorem one_obj (x : Nat → Rat) : obj n (fun _ => 1) x = sg n x := sg_congr n fun j _ => by grind
theorem more_unb {β : Rat} (h : More n m A b A' b' (fun _ => 1) β) : ¬ Unb n (m + 1) A' b' c := fun hu => by
  obtain ⟨d, hd⟩ := unb_ray hu
  have h1 := hd.le m (by omega)
  rw [obj_congr h.a1, one_obj] at h1
  have := sg_pos_of hd.nn hd.pos
  grind
theorem more_grow {A1 A2 : Nat → Nat → Rat} {b1 b2 : Nat → Rat} {β v1 v2 : Rat} (h1 : More n m A b A1 b1 (fun _ => 1) β) (h2 : More n m A b A2 b2 (fun _ => 1) (β + 1)) (hu : Unb n m A b c) (o1 : OptV n (m + 1) A1 b1 c v1) (o2 : OptV n (m + 1) A2 b2 c v2) : v1 < v2 := by
  obtain ⟨d, hd⟩ := unb_ray hu
  obtain ⟨x, hx, e⟩ := o1.ex
  obtain ⟨hp, hs⟩ := (more_pf h1 x).1 hx
  have h0 := sg_pos_of hd.nn hd.pos
  have hy : 0 < 1 / sg n d := by
    have h3 := div_nonneg' (show (0 : Rat) ≤ 1 by decide) h0
    have h4 : 1 / sg n d * sg n d = 1 := by grind
    grind
  have h3 := o2.le (fun j => x j + 1 / sg n d * d j) ((more_pf h2 _).2 ⟨ray_pf hd hp (by grind), by
    rw [obj_lin, one_obj, one_obj] at *
    have h4 : 1 / sg n d * sg n d = 1 := by grind
    grind⟩)
  rw [obj_lin, e] at h3
  have h5 := Rat.mul_pos hy hd.pos
  grind
/-- Another row that is there already. -/
theorem more_same {i0 : Nat} {v : Rat} (hi : i0 < m) (h : More n m A b A' b' (A i0) (b i0)) (o : OptV n m A b c v) : OptV n (m + 1) A' b' c v ∧ ¬ Unb n (m + 1) A' b' c := by
  have hp : ∀ x, PF n (m + 1) A' b' x ↔ PF n m A b x := fun x => by
    rw [more_pf h]
    exact ⟨fun h => h.1, fun h => ⟨h, h.2 i0 hi⟩⟩
  obtain ⟨x, hx, e⟩ := o.ex
  refine ⟨⟨⟨x, (hp x).2 hx, e⟩, fun y hy => o.le y ((hp y).1 hy)⟩, ?_⟩
  rintro ⟨x, d, h1, h2⟩
  exact unb_not ⟨x, d, fun y hy => (hp _).1 (h1 y hy), h2⟩ o
/-- A multiple of the objective. -/
theorem scale_c {f v : Rat} (hf : 0 < f) (h : ∀ j, j < n → c' j = c j * f) (o : OptV n m A b c v) : OptV n m A b c' (v * f) ∧ ¬ Unb n m A b c' := by
  have he : ∀ x, obj n c' x = f * obj n c x := fun x => by
    unfold obj
    rw [← sg_mul]
    exact sg_congr n fun j hj => by rw [h j hj]; grind
  obtain ⟨x, hx, e⟩ := o.ex
  refine ⟨⟨⟨x, hx, by rw [he, e]; grind⟩, fun y hy => ?_⟩, ?_⟩
  · rw [he]
    have := Rat.mul_le_mul_of_nonneg_left (o.le y hy) (show 0 ≤ f by grind)
    grind
  · rintro ⟨x, d, h1, h2⟩
    refine unb_not ⟨x, d, h1, ?_⟩ o
    rw [he] at h2
    by_cases h3 : 0 < obj n c d
    · exact h3
    · have h4 := Rat.mul_nonneg (show 0 ≤ f by grind) (show 0 ≤ -obj n c d by grind)
      grind
theorem obj_scale (g x : Nat → Rat) (f : Rat) : obj n g (fun j => f * x j) = f * obj n g x := by
  unfold obj
  rw [← sg_mul]
  exact sg_congr n fun j _ => by grind
theorem pf_scale {f : Rat} (hf : 0 ≤ f) (h : ∀ i, i < m → b' i = b i * f) {x : Nat → Rat} (hx : PF n m A b x) : PF n m A b' (fun j => f * x j) := by
  refine ⟨fun j hj => Rat.mul_nonneg hf (hx.1 j hj), fun i hi => ?_⟩
  rw [obj_scale, h i hi]
  have := Rat.mul_le_mul_of_nonneg_left (hx.2 i hi) hf
  grind
/-- A multiple of the right-hand sides. -/
theorem scale_b {f v : Rat} (hf : 0 < f) (h : ∀ i, i < m → b' i = b i * f) (o : OptV n m A b c v) : OptV n m A b' c (v * f) ∧ ¬ Unb n m A b' c := by
  have hg : 0 < 1 / f := by
    have h3 := div_nonneg' (show (0 : Rat) ≤ 1 by decide) hf
    have h4 : 1 / f * f = 1 := by grind
    grind
  have h4 : 1 / f * f = 1 := by grind
  obtain ⟨x, hx, e⟩ := o.ex
  refine ⟨⟨⟨fun j => f * x j, pf_scale (by grind) h hx, by rw [obj_scale, e]; grind⟩, fun y hy => ?_⟩, ?_⟩
  · have h1 := o.le _ (pf_scale (b := b') (b' := b) (f := 1 / f) (by grind) (fun i hi => by rw [h i hi]; grind) hy)
    rw [obj_scale] at h1
    have h5 := Rat.mul_le_mul_of_nonneg_left h1 (show 0 ≤ f by grind)
    have h6 : f * (1 / f * obj n c y) = obj n c y := by rw [← Rat.mul_assoc, Rat.mul_comm f, h4, Rat.one_mul]
    grind
  · intro hu
    obtain ⟨d, hd⟩ := unb_ray hu
    exact ray_not ⟨hd.nn, hd.le, hd.pos⟩ o
end

end Go.Proofs.Ytaampjhdgeoicaa

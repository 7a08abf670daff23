/- simplex: the chapter's example. -/
import Derived.Test.YtaampjhdgeoicaaSxH
namespace Go.Proofs.Ytaampjhdgeoicaa
set_option linter.unusedSimpArgs false
set_option linter.unusedVariables false
open Go Go.RowKit
set_option linter.unusedVariables false

theorem block_facts {w : World} {H : Nat} {T : TypeId} {l : List (Int × Int)} (h : w.heap[H]? = some (.cells (fc l).toArray T (0, 0))) (hl : l.length ≤ 140737488355328) : FactsAt w w.heap.size (some ⟨H, 0, none⟩) l :=
  ⟨hl, fun _ => ⟨H, 0, rfl, (Array.getElem?_eq_some_iff.1 h).1, fun k hk => by
    have h1 := cell_of_row w H (k * 2) _ T (0, 0) h
    have h2 := cell_of_row w H (k * 2 + 1) _ T (0, 0) h
    obtain ⟨g1, g2⟩ := fc_get l k hk
    rw [List.getElem?_toArray, g1] at h1
    rw [List.getElem?_toArray, g2] at h2
    rw [Nat.zero_add]
    exact ⟨h1, h2⟩⟩⟩
theorem block_ints {w : World} {H : Nat} {T : TypeId} {l : List Int} (h : w.heap[H]? = some (.cells (ic l).toArray T (0, 0))) (hl : l.length ≤ 140737488355328) : IntsAt w w.heap.size (some ⟨H, 0, none⟩) l :=
  ⟨hl, fun _ => ⟨H, 0, rfl, (Array.getElem?_eq_some_iff.1 h).1, fun k hk => by
    have h1 := cell_of_row w H k _ T (0, 0) h
    rw [List.getElem?_toArray, ic_get hk] at h1
    rw [Nat.zero_add]
    exact h1⟩⟩
/-- The fractions of a row of numbers. -/
def frq (f : Nat → Rat) (N : Nat) : List (Int × Int) := (List.range N).map fun j => ((f j).num, ((f j).den : Int))
theorem frq_len (f : Nat → Rat) (N : Nat) : (frq f N).length = N := by unfold frq; simp
theorem frq_at {f : Nat → Rat} {N j : Nat} (h : j < N) : fv (frq f N) j = (f j).num ∧ fx (frq f N) j = (f j).den := by unfold frq fv fx; simp [List.getD, h]
theorem fr_facts {w : World} {b N : Nat} {f : Nat → Rat} (h : FrRow w b N f) (hN : N ≤ 1000) : FactsAt w w.heap.size (some ⟨b, 0, none⟩) (frq f N) :=
  ⟨by rw [frq_len]; omega, fun _ => ⟨b, 0, rfl, h.lt, fun k hk => by
    rw [frq_len] at hk
    obtain ⟨h1, h2⟩ := frq_at (f := f) hk
    rw [h1, h2, Nat.zero_add]
    exact ⟨h.num hk, h.den hk⟩⟩⟩
def aC : List (Int × Int) := [(1, 1), (1, 1)]
def aR : List (List (Int × Int)) := [[(1, 1), (2, 1)], [(3, 1), (1, 1)]]
def aB : List (Int × Int) := [(4, 1), (6, 1)]
theorem aw_chk : chk37 aC aR aB = 0 := by decide +kernel
def aT1 : TB := piv (T37 aC aR aB) 1 0
def aT2 : TB := piv aT1 0 1
instance {r : Rat} : Decidable (Rep r) := by unfold Rep; infer_instance
theorem two_cases {P : Nat → Prop} (h0 : P 0) (h1 : P 1) : ∀ i, i < 2 → P i := fun i hi => by
  rcases i with _ | _ | i
  · exact h0
  · exact h1
  · omega
theorem rat_ok2 {T : TB} {k : Nat} (h0 : Rep (T.b 0 / T.a 0 k)) (h1 : Rep (T.b 1 / T.a 1 k)) : RatOK 2 T k := fun i j hi _ _ _ _ => two_cases (P := fun i => Rep (T.b i / T.a i k)) h0 h1 i hi
theorem ent_dec {N : Nat} {T : TB} {k : Nat} (h1 : k < N) (h2 : 0 < T.c k) (h3 : ∀ j, j < k → ¬ 0 < T.c j) : Ent N T k := ⟨h1, h2, h3⟩
theorem aw_e0 : Ent 4 (T37 aC aR aB) 0 := ⟨by decide, by decide +kernel, by decide +kernel⟩
theorem aw_e1 : Ent 4 aT1 1 := ⟨by decide, by decide +kernel, by decide +kernel⟩
theorem aw_l0 : Lea 2 (T37 aC aR aB) 0 1 := ⟨by decide, by decide +kernel, by decide +kernel⟩
theorem aw_l1 : Lea 2 aT1 1 0 := ⟨by decide, by decide +kernel, by decide +kernel⟩
theorem aw_p0 : PivOK 2 4 (T37 aC aR aB) 1 0 := ⟨by decide +kernel, by decide +kernel, by decide +kernel, by decide +kernel, by decide +kernel, by decide +kernel⟩
theorem aw_p1 : PivOK 2 4 aT1 0 1 := ⟨by decide +kernel, by decide +kernel, by decide +kernel, by decide +kernel, by decide +kernel, by decide +kernel⟩
theorem aw_fin : Fin 2 4 (T37 aC aR aB) (.ok aT2) :=
  ⟨2, aT2, .succ (.succ .zero aw_e0 (rat_ok2 (by decide +kernel) (by decide +kernel)) aw_l0 aw_p0) aw_e1 (rat_ok2 (by decide +kernel) (by decide +kernel)) aw_l1 aw_p1, .done (by decide +kernel)⟩
theorem aw_z : aT2.z.num = 14 ∧ aT2.z.den = 5 := by decide +kernel
theorem aw_x : frq (xB 2 aT2) 2 = [(8, 5), (6, 5)] := by decide +kernel
theorem aw_y : frq (fun i => -aT2.c (2 + i)) 2 = [(2, 5), (1, 5)] := by decide +kernel
theorem aw_ret {e : Ending} {w' : World} (h : SolRet aC aR aB e w') : ∃ bx bY, e = .returned (.tuple #[.agg #[.int .i64 14, .int .i64 5], .slice (some ⟨bx, 0, none⟩) 2 2, .slice (some ⟨bY, 0, none⟩) 2 2, .nilIface]) ∧ FactsAt w' w'.heap.size (some ⟨bx, 0, none⟩) [(8, 5), (6, 5)] ∧ FactsAt w' w'.heap.size (some ⟨bY, 0, none⟩) [(2, 5), (1, 5)] := by
  have ht : Tab 2 4 (T37 aC aR aB) := t37_tab aw_chk
  rcases h with ⟨h, _⟩ | ⟨_, ⟨cd, h, _⟩ | ⟨T, h, bx, bY, he, hx, hy⟩⟩
  · exact absurd aw_chk h
  · have := fin_uni ht h aw_fin
    cases this
  · have := fin_uni ht h aw_fin
    injection this with hT
    subst hT
    refine ⟨bx, bY, ?_, ?_, ?_⟩
    · rw [he, aw_z.1, aw_z.2]; rfl
    · rw [← aw_x]; exact fr_facts hx (by decide)
    · rw [← aw_y]; exact fr_facts hy (by decide)

end Go.Proofs.Ytaampjhdgeoicaa

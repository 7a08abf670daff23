/- A map from numbers to rows: its laws (look up, store). -/
import Derived.Test.YtpobnjbpglaohaaGreatWpI
import Derived.Maps.Keyed
namespace Go.Proofs.YtpobnjbpglaohaaGreat
set_option linter.unusedSimpArgs false
set_option linter.unusedVariables false
open Go Go.RowKit Go.Maps
set_option linter.unusedVariables false

def hk (h : Int) : Value := .int .i64 h
/-- A map's entries: the keys are numbers, each once. -/
structure TabOk (es : List MapEntry) : Prop where
  keys : ∀ x ∈ es, ∃ h, (Lit.int .i64 h).wf = true ∧ x.key = hk h
  once : (es.map (·.key)).Nodup
/-- What stands at a key. -/
def IsAt (es : List MapEntry) (h : Int) (v : Value) : Prop := (∃ x ∈ es, x.key = hk h ∧ x.val = v) ∨ ((∀ x ∈ es, x.key ≠ hk h) ∧ v = .slice none 0 0)
theorem hk_inj {a b : Int} (h : hk a = hk b) : a = b := by
  unfold hk at h
  injection h
theorem IsAt.uni {es : List MapEntry} (H : TabOk es) {h : Int} {v v' : Value} (a : IsAt es h v) (b : IsAt es h v') : v = v' := by
  rcases a with ⟨x, hx, kx, rfl⟩ | ⟨na, rfl⟩
  · rcases b with ⟨y, hy, ky, rfl⟩ | ⟨nb, rfl⟩
    · obtain ⟨i, hi, rfl⟩ := List.getElem_of_mem hx
      obtain ⟨j, hj, rfl⟩ := List.getElem_of_mem hy
      have hn := H.once
      rw [List.Nodup, List.pairwise_map, List.pairwise_iff_getElem] at hn
      rcases Nat.lt_trichotomy i j with h1 | h1 | h1
      · exact absurd (kx.trans ky.symm) (hn i j hi hj h1)
      · subst h1; rfl
      · exact absurd (ky.trans kx.symm) (hn j i hj hi h1)
    · exact absurd kx (nb x hx)
  · rcases b with ⟨y, hy, ky, rfl⟩ | ⟨nb, rfl⟩
    · exact absurd ky (na y hy)
    · rfl
theorem tabKeyed : Keyed Tryz.prog 3 := int_keyed (show Tryz.prog.underlying 3 = some (.int .i64) by kernel_rfl)
theorem tabKey {h : Int} (hw : (Lit.int .i64 h).wf = true) : keyOf Tryz.prog 3 (hk h) = some (.int .i64 h) := keyOf_int_mk (show Tryz.prog.underlying 3 = some (.int .i64) by kernel_rfl) hw
theorem tabTy : Tryz.prog.underlying 84 = some (.map 3 22) := by kernel_rfl
theorem tabKeys {es : List MapEntry} (H : TabOk es) : ∀ e ∈ es, ∃ l, keyOf Tryz.prog 3 e.key = some l := fun e he => by
  obtain ⟨h, hw, hk'⟩ := H.keys e he
  exact ⟨_, by rw [hk']; exact tabKey hw⟩
theorem tab_zero (w : World) : (zeroValue 22).run Tryz.prog w = .ok (.slice none 0 0) w := by
  obtain ⟨i, hi, hz, _, _⟩ := info_parts (show (Tryz.prog.info? 22).map (fun i => (i.zero, i.size, i.bytes)) = some (some (.slice none 0 0), 1, 24) by kernel_rfl)
  simp [zeroValue, typeInfo, hi, hz, Sem.run_bind]
/-- 'm[k]'. -/
theorem tab_look {w : World} {b : Nat} {es : Array MapEntry} {clock : Nat} (hb : w.heap[b]? = some (.map es clock)) (H : TabOk es.toList) {h : Int} (hw : (Lit.int .i64 h).wf = true) :
    ∃ v, IsAt es.toList h v ∧ (Instr.lookup 84 (.map (some b)) (.int .i64 h) false).run Tryz.prog w = .ok v w := by
  have K := tabKeyed
  rcases K.find w (tabKey hw) es.toList (tabKeys H) with ⟨h1, h2⟩ | ⟨j, e0, h1, h2, h3⟩
  · refine ⟨_, .inr ⟨h2, rfl⟩, ?_⟩
    have hc := fun em => K.check w em (tabKey hw)
    unfold hk at h1 hc
    simp [Instr.lookup, run_underlying tabTy, MapKept.run_getObj_map hb, hc, h1, tab_zero w, Result.andThen]
  · refine ⟨e0.val, .inl ⟨e0, List.mem_of_getElem? h2, h3, rfl⟩, ?_⟩
    have hc := fun em => K.check w em (tabKey hw)
    unfold hk at h1 hc
    simp [Instr.lookup, run_underlying tabTy, MapKept.run_getObj_map hb, hc, h1, Result.andThen]
/-- 'm[k] = v'. -/
theorem tab_store {w : World} {b : Nat} {es : Array MapEntry} {clock : Nat} (hb : w.heap[b]? = some (.map es clock)) (H : TabOk es.toList) {h : Int} (hw : (Lit.int .i64 h).wf = true) (v : Value) :
    ∃ es' clock', (Instr.mapUpdate 84 (.map (some b)) (.int .i64 h) v).run Tryz.prog w = .ok () (ChangeMaps.setBlock w b (.map es' clock')) ∧ TabOk es'.toList ∧ IsAt es'.toList h v ∧
      ∀ h', h' ≠ h → ∀ v', IsAt es'.toList h' v' ↔ IsAt es.toList h' v' := by
  have K := tabKeyed
  have hc := fun em => K.check w em (tabKey hw)
  rcases K.find w (tabKey hw) es.toList (tabKeys H) with ⟨h1, h2⟩ | ⟨j, e0, h1, h2, h3⟩
  · refine ⟨es.push ⟨hk h, v, clock⟩, clock + 1, ?_, ⟨?_, ?_⟩, .inl ⟨⟨hk h, v, clock⟩, by simp, rfl, rfl⟩, fun h' hne v' => ?_⟩
    · unfold hk at h1 hc ⊢
      simp [Instr.mapUpdate, run_underlying tabTy, MapKept.run_getObj_map hb, hc, h1, MapKept.run_setObj_map _ hb, Result.andThen, ChangeMaps.setBlock]
    · intro x hx
      simp only [Array.toList_push, List.mem_append, List.mem_singleton] at hx
      rcases hx with hx | rfl
      · exact H.keys x hx
      · exact ⟨h, hw, rfl⟩
    · rw [Array.toList_push, List.map_append, List.nodup_append]
      refine ⟨H.once, by simp, ?_⟩
      intro a ha b' hb'
      obtain ⟨x, hx, rfl⟩ := List.mem_map.1 ha
      simp only [List.map_cons, List.map_nil, List.mem_singleton] at hb'
      subst hb'
      exact h2 x hx
    · unfold IsAt
      simp only [Array.toList_push, List.mem_append, List.mem_singleton]
      constructor
      · rintro (⟨x, hx | rfl, kx, vx⟩ | ⟨hn, rfl⟩)
        · exact .inl ⟨x, hx, kx, vx⟩
        · exact absurd (hk_inj kx).symm hne
        · exact .inr ⟨fun x hx => hn x (.inl hx), rfl⟩
      · rintro (⟨x, hx, kx, vx⟩ | ⟨hn, rfl⟩)
        · exact .inl ⟨x, .inl hx, kx, vx⟩
        · refine .inr ⟨?_, rfl⟩
          rintro x (hx | rfl)
          · exact hn x hx
          · exact fun e => hne (hk_inj e).symm
  · have hj : es[j]? = some e0 := by simpa using h2
    have hjl : j < es.toList.length := (List.getElem?_eq_some_iff.1 h2).1
    have hlist : (es.modify j (fun e' => { e' with key := hk h, val := v })).toList = es.toList.set j { e0 with key := hk h, val := v } := by rw [Array.toList_modify, ChangeMaps.modify_eq_set _ _ _ _ h2]
    have hkeys : (es.toList.set j { e0 with key := hk h, val := v }).map (·.key) = es.toList.map (·.key) := by
      rw [List.map_set]
      dsimp only
      rw [← h3]
      apply List.ext_getElem?
      intro i
      rw [List.getElem?_set]
      split
      · rename_i e; subst e; rw [List.getElem?_map, h2]; simp; simpa using hjl
      · rfl
    have hget : ∀ x, x ∈ es.toList.set j { e0 with key := hk h, val := v } → x = { e0 with key := hk h, val := v } ∨ (x ∈ es.toList ∧ x.key ≠ hk h) := by
      intro x hx
      obtain ⟨i, hi, ex⟩ := List.getElem_of_mem hx
      rw [List.getElem_set] at ex
      split at ex
      · exact .inl ex.symm
      · rename_i hne
        have hi' : i < es.toList.length := by simpa using hi
        refine .inr ⟨ex ▸ List.getElem_mem hi', fun e => ?_⟩
        have hn := H.once
        rw [List.Nodup, List.pairwise_map, List.pairwise_iff_getElem] at hn
        have e0' : es.toList[j] = e0 := by rw [List.getElem?_eq_getElem hjl] at h2; exact Option.some.inj h2
        rcases Nat.lt_or_gt_of_ne hne with h4 | h4
        · exact hn j i hjl hi' h4 (by rw [e0', ex, h3, e])
        · exact hn i j hi' hjl h4 (by rw [e0', ex, h3, e])
    have hmem : ∀ x ∈ es.toList, x.key ≠ hk h → x ∈ es.toList.set j { e0 with key := hk h, val := v } := by
      intro x hx hne
      obtain ⟨i, hi, ex⟩ := List.getElem_of_mem hx
      refine List.mem_iff_getElem.2 ⟨i, by simpa using hi, ?_⟩
      rw [List.getElem_set, if_neg, ex]
      rintro rfl
      rw [List.getElem?_eq_getElem hi, ex] at h2
      rw [Option.some.inj h2] at hne
      exact hne h3
    refine ⟨es.modify j (fun e' => { e' with key := hk h, val := v }), clock, ?_, ⟨?_, ?_⟩, ?_, fun h' hne v' => ?_⟩
    · have hs := K.stays w (tabKey hw)
      unfold hk at h1 hc h3 hs ⊢
      simp [Instr.mapUpdate, run_underlying tabTy, MapKept.run_getObj_map hb, hc, h1, hj, h3, hs, MapKept.run_setObj_map _ hb, Result.andThen, ChangeMaps.setBlock]
    · rw [hlist]
      intro x hx
      rcases hget x hx with rfl | ⟨hx, _⟩
      · exact ⟨h, hw, rfl⟩
      · exact H.keys x hx
    · rw [hlist, hkeys]
      exact H.once
    · rw [hlist]
      exact .inl ⟨{ e0 with key := hk h, val := v }, List.mem_iff_getElem.2 ⟨j, by simpa using hjl, by simp⟩, rfl, rfl⟩
    · unfold IsAt
      rw [hlist]
      constructor
      · rintro (⟨x, hx, kx, vx⟩ | ⟨hn, rfl⟩)
        · rcases hget x hx with rfl | ⟨hx, _⟩
          · exact absurd (hk_inj kx).symm hne
          · exact .inl ⟨x, hx, kx, vx⟩
        · refine .inr ⟨fun x hx e => ?_, rfl⟩
          exact hn x (hmem x hx (fun e2 => hne (hk_inj (e.symm.trans e2)))) e
      · rintro (⟨x, hx, kx, vx⟩ | ⟨hn, rfl⟩)
        · exact .inl ⟨x, hmem x hx (fun e => hne (hk_inj (kx.symm.trans e))), kx, vx⟩
        · refine .inr ⟨fun x hx e => ?_, rfl⟩
          rcases hget x hx with rfl | ⟨hx, _⟩
          · exact hne (hk_inj e).symm
          · exact hn x hx e
end Go.Proofs.YtpobnjbpglaohaaGreat

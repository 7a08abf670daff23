/- certify.Lower: what its loops keep. Plain. -/
import Derived.Test.YtlkebhiaimijiaaGreatDoorVcD
import Derived.Test.YtlkebhiaimijiaaGreatDoorVdD
namespace Go.Proofs.YtlkebhiaimijiaaGreatDoor
set_option linter.unusedSimpArgs false
set_option linter.unusedVariables false
open Go Go.RowKit
set_option linter.unusedVariables false

/-- What regression comes to, with its distance. -/
inductive Rch (t : Tsk) (b : Int) : List Fct → Int → Prop
 | goal : Rch t b t.goal 0
 | step {f : List Fct} {d : Int} {k : Nat} {z : List Fct} : Rch t b f d → k < t.ops.length → Cnt b d (opr t.ops k).cost → RegS t.vars (opr t.ops k) f z → Rch t b z (dsX b d (opr t.ops k).cost)
section
variable {t : Tsk} {b : Int}
theorem Rch.fa (hr : Right t) {f : List Fct} {d : Int} (h : Rch t b f d) : faB t.vars f = true := by
 induction h with
 | goal => exact hr.goal
 | step _ hk _ hz ih => exact RegS.fa (op_ok hr hk) ih _ hz
theorem Rch.rng (hr : Right t) (hb : b ≠ 0) {f : List Fct} {d : Int} (h : Rch t b f d) : 0 ≤ d ∧ (b < 0 → d = 0) ∧ (0 ≤ b → d < b) := by
 induction h with
 | goal => omega
 | @step f d k z _ hk hc hz ih =>
  have hcs := hr.cost k hk
  unfold Cnt at hc
  unfold dsX
  split <;> omega
theorem Rch.plan (hr : Right t) {f : List Fct} {d : Int} (h : Rch t b f d) : ∀ s, stB t.vars s = true → hoB f s = true → ∃ c, PlanC t s c ∧ (b < 0 ∨ c ≤ d) := by
 induction h with
 | goal => exact fun s _ hs => ⟨0, PlanC.goal hs, .inr (Int.le_refl _)⟩
 | @step f d k z hf hk hc hz ih =>
  intro s hst hs
  obtain ⟨h1, h2⟩ := (has_reg (op_ok hr hk) (hf.fa hr) hst).1 ⟨z, hz, hs⟩
  obtain ⟨c, h3, h4⟩ := ih (nxt t s k) (st_nxt' hr hst hk) h2
  refine ⟨_, PlanC.step hk h1 h3, ?_⟩
  unfold dsX
  split <;> omega
abbrev PndS := Nog → Nat → List Fct → Prop
def noP : PndS := fun _ _ _ => False
def opP (x : List Fct) (d : Int) (k0 : Nat) : PndS := fun n k z => n.facts = x ∧ n.dist = d ∧ k0 ≤ k
def inP (x : List Fct) (d : Int) (k0 : Nat) (L : List (List Fct)) (m0 : Nat) : PndS := fun n k z => n.facts = x ∧ n.dist = d ∧ (k0 < k ∨ (k = k0 ∧ z ∉ L.take m0))
structure LowP (t : Tsk) (b : Int) (P : PndS) (ns : List Ngd) (es : List En) : Prop where
 erch : ∀ e ∈ es, Rch t b e.facts e.dist
 nrch : ∀ n ∈ ns, Rch t b n.l n.d
 ninit : ∀ n ∈ ns, hoB n.l t.init = false
 srt : ∀ n ∈ ns, ∀ e ∈ es, n.d ≤ e.dist
 nosub : (ns.map Ngd.l).Pairwise fun a c => ¬ Sub a c
 goal : (∃ e ∈ es, e.facts = t.goal ∧ e.dist = 0) ∨ ∃ n ∈ ns, n.d ≤ 0 ∧ Sub n.l t.goal
 step : ∀ n ∈ ns, ∀ k, k < t.ops.length → Cnt b n.d (opr t.ops k).cost → ∀ z, RegS t.vars (opr t.ops k) n.l z → P ⟨n.l, n.d⟩ k z ∨ (∃ e ∈ es, e.facts = z ∧ e.dist = dsX b n.d (opr t.ops k).cost) ∨ ∃ m ∈ ns, m.d ≤ dsX b n.d (opr t.ops k).cost ∧ Sub m.l z
theorem LowP.start {e : En} (h1 : e.facts = t.goal) (h2 : e.dist = 0) : LowP t b noP [] [e] where
 erch := fun x hx => by simp at hx; subst hx; rw [h1, h2]; exact Rch.goal
 nrch := fun n hn => by cases hn
 ninit := fun n hn => by cases hn
 srt := fun n hn => by cases hn
 nosub := List.Pairwise.nil
 goal := .inl ⟨e, by simp, h1, h2⟩
 step := fun n hn => by cases hn
theorem sub_refl (a : List Fct) : Sub a a := fun _ h => h
theorem LowP.skip {ns : List Ngd} {es es' : List En} {x : En} (h : LowP t b noP ns es) (hm : ∀ y, y ∈ es ↔ y ∈ es' ∨ y = x) (hc : ∃ m ∈ ns, Sub m.l x.facts) : LowP t b noP ns es' := by
 obtain ⟨m, hm1, hm2⟩ := hc
 have hx : x ∈ es := (hm x).2 (.inr rfl)
 have hs : m.d ≤ x.dist := h.srt m hm1 x hx
 refine { h with erch := fun e he => h.erch e ((hm e).2 (.inl he)), srt := fun n hn e he => h.srt n hn e ((hm e).2 (.inl he)), goal := ?_, step := fun n hn k hk hcn z hz => ?_ }
 ·rcases h.goal with ⟨e, he, h1, h2⟩ | h1
  ·rcases (hm e).1 he with he | rfl
   ·exact .inl ⟨e, he, h1, h2⟩
   ·exact .inr ⟨m, hm1, by omega, by rw [← h1]; exact hm2⟩
  ·exact .inr h1
 ·rcases h.step n hn k hk hcn z hz with h1 | ⟨e, he, h1, h2⟩ | h1
  ·exact .inl h1
  ·rcases (hm e).1 he with he | rfl
   ·exact .inr (.inl ⟨e, he, h1, h2⟩)
   ·exact .inr (.inr ⟨m, hm1, by omega, by rw [← h1]; exact hm2⟩)
  ·exact .inr (.inr h1)
theorem LowP.add {ns : List Ngd} {es es' : List En} {x : En} {n' : Ngd} (h : LowP t b noP ns es) (hm : ∀ y, y ∈ es ↔ y ∈ es' ∨ y = x) (hmin : ∀ y ∈ es', x.dist ≤ y.dist) (hno : ¬ ∃ m ∈ ns, Sub m.l x.facts) (hi : hoB x.facts t.init = false) (h1 : n'.l = x.facts) (h2 : n'.d = x.dist) :
  LowP t b (opP x.facts x.dist 0) (ns ++ [n']) es' := by
 have hx : x ∈ es := (hm x).2 (.inr rfl)
 have hin : n' ∈ ns ++ [n'] := by simp
 constructor
 ·exact fun e he => h.erch e ((hm e).2 (.inl he))
 ·intro n hn
  rcases List.mem_append.1 hn with hn | hn
  ·exact h.nrch n hn
  ·simp at hn; subst hn; rw [h1, h2]; exact h.erch x hx
 ·intro n hn
  rcases List.mem_append.1 hn with hn | hn
  ·exact h.ninit n hn
  ·simp at hn; subst hn; rw [h1]; exact hi
 ·intro n hn e he
  rcases List.mem_append.1 hn with hn | hn
  ·exact h.srt n hn e ((hm e).2 (.inl he))
  ·simp at hn; subst hn; rw [h2]; exact hmin e he
 ·rw [List.map_append, List.pairwise_append]
  refine ⟨h.nosub, by simp, fun a ha c hc hs => hno ?_⟩
  obtain ⟨m, hm1, rfl⟩ := List.mem_map.1 ha
  simp at hc
  subst hc
  exact ⟨m, hm1, by rw [← h1]; exact hs⟩
 ·rcases h.goal with ⟨e, he, g1, g2⟩ | ⟨n, hn, g1⟩
  ·rcases (hm e).1 he with he | rfl
   ·exact .inl ⟨e, he, g1, g2⟩
   ·exact .inr ⟨n', hin, by rw [h2, g2]; exact Int.le_refl _, by rw [h1, g1]; exact sub_refl _⟩
  ·exact .inr ⟨n, List.mem_append.2 (.inl hn), g1⟩
 ·intro n hn k hk hcn z hz
  rcases List.mem_append.1 hn with hn | hn
  ·rcases h.step n hn k hk hcn z hz with g1 | ⟨e, he, g1, g2⟩ | ⟨m, hm1, g1⟩
   ·exact g1.elim
   ·rcases (hm e).1 he with he | rfl
    ·exact .inr (.inl ⟨e, he, g1, g2⟩)
    ·exact .inr (.inr ⟨n', hin, by rw [h2, g2]; exact Int.le_refl _, by rw [h1, g1]; exact sub_refl _⟩)
   ·exact .inr (.inr ⟨m, List.mem_append.2 (.inl hm1), g1⟩)
  ·simp at hn; subst hn
   exact .inl ⟨h1, h2, Nat.zero_le _⟩
theorem LowP.pend {P P' : PndS} {ns : List Ngd} {es : List En} (h : LowP t b P ns es) (hp : ∀ n k z, k < t.ops.length → Cnt b n.dist (opr t.ops k).cost → RegS t.vars (opr t.ops k) n.facts z → P n k z → P' n k z) : LowP t b P' ns es :=
 { h with step := fun n hn k hk hcn z hz => (h.step n hn k hk hcn z hz).imp_left (hp _ k z hk hcn hz) }
theorem LowP.opskip {x : List Fct} {d : Int} {k0 : Nat} {ns : List Ngd} {es : List En} (h : LowP t b (opP x d k0) ns es) (hc : ¬ Cnt b d (opr t.ops k0).cost) : LowP t b (opP x d (k0 + 1)) ns es :=
 h.pend fun n k z hk hcn hz ⟨h1, h2, h3⟩ => ⟨h1, h2, by
  rcases Nat.lt_or_ge k0 k with h4 | h4
  ·exact h4
  ·obtain rfl : k = k0 := by omega
   rw [h2] at hcn; exact absurd hcn hc⟩
theorem LowP.enter {x : List Fct} {d : Int} {k0 : Nat} {L : List (List Fct)} {ns : List Ngd} {es : List En} (h : LowP t b (opP x d k0) ns es) : LowP t b (inP x d k0 L 0) ns es :=
 h.pend fun n k z hk hcn hz ⟨h1, h2, h3⟩ => ⟨h1, h2, by
  rcases Nat.lt_or_ge k0 k with h4 | h4
  ·exact .inl h4
  ·exact .inr ⟨by omega, by simp⟩⟩
theorem LowP.leave {x : List Fct} {d : Int} {k0 : Nat} {L : List (List Fct)} {ns : List Ngd} {es : List En} (h : LowP t b (inP x d k0 L L.length) ns es) (hL : ∀ z, RegS t.vars (opr t.ops k0) x z → z ∈ L) : LowP t b (opP x d (k0 + 1)) ns es :=
 h.pend fun n k z hk hcn hz ⟨h1, h2, h3⟩ => ⟨h1, h2, by
  rcases h3 with h3 | ⟨rfl, h3⟩
  ·exact h3
  ·rw [h1] at hz
   exact absurd (by rw [List.take_length]; exact hL z hz) h3⟩
theorem LowP.done {x : List Fct} {d : Int} {ns : List Ngd} {es : List En} (h : LowP t b (opP x d t.ops.length) ns es) : LowP t b noP ns es :=
 h.pend fun n k z hk hcn hz ⟨h1, h2, h3⟩ => by show False; omega
theorem LowP.push (hr : Right t) (hb : b ≠ 0) {x : List Fct} {d : Int} {k0 m0 : Nat} {L : List (List Fct)} {ns : List Ngd} {es es' : List En} {e : En} (h : LowP t b (inP x d k0 L m0) ns es) (hm0 : m0 < L.length) (hx : Rch t b x d) (hk : k0 < t.ops.length) (hc : Cnt b d (opr t.ops k0).cost)
  (hz : RegS t.vars (opr t.ops k0) x (L.getD m0 [])) (hm : ∀ y, y ∈ es' ↔ y ∈ es ∨ y = e) (h1 : e.facts = L.getD m0 []) (h2 : e.dist = dsX b d (opr t.ops k0).cost) (hmx : ∀ n ∈ ns, n.d ≤ d) : LowP t b (inP x d k0 L (m0 + 1)) ns es' := by
 have hcs := hr.cost k0 hk
 have hin : e ∈ es' := (hm e).2 (.inr rfl)
 constructor
 ·intro y hy
  rcases (hm y).1 hy with hy | rfl
  ·exact h.erch y hy
  ·rw [h1, h2]; exact Rch.step hx hk hc hz
 ·exact h.nrch
 ·exact h.ninit
 ·intro n hn y hy
  rcases (hm y).1 hy with hy | rfl
  ·exact h.srt n hn y hy
  ·have g1 := hmx n hn
   have g2 := (h.nrch n hn).rng hr hb
   rw [h2]
   unfold dsX
   split <;> omega
 ·exact h.nosub
 ·rcases h.goal with ⟨y, hy, g⟩ | g
  ·exact .inl ⟨y, (hm y).2 (.inl hy), g⟩
  ·exact .inr g
 ·intro n hn k hk' hcn z hz'
  rcases h.step n hn k hk' hcn z hz' with ⟨g1, g2, g3⟩ | ⟨y, hy, g⟩ | g
  ·rcases g3 with g3 | ⟨rfl, g3⟩
   ·exact .inl ⟨g1, g2, .inl g3⟩
   ·by_cases e0 : z = L.getD m0 []
    ·refine .inr (.inl ⟨e, hin, by rw [h1, e0], ?_⟩)
     have g2' : n.d = d := g2
     rw [h2, g2']
    ·refine .inl ⟨g1, g2, .inr ⟨rfl, fun hmem => ?_⟩⟩
     rw [List.getD_eq_getElem?_getD, List.getElem?_eq_getElem hm0] at e0
     rw [← List.take_append_getElem hm0, List.mem_append] at hmem
     rcases hmem with hmem | hmem
     ·exact g3 hmem
     ·simp at hmem; exact e0 hmem
  ·exact .inr (.inl ⟨y, (hm y).2 (.inl hy), g⟩)
  ·exact .inr (.inr g)
theorem LowP.syn {ns : List Ngd} (hr : Right t) (h : LowP t b noP ns []) : SynOk t b (nogs ns) where
 fa := fun n hn => by
  obtain ⟨m, hm, rfl⟩ := nogs_mem.1 hn
  exact (h.nrch m hm).fa hr
 ninit := fun n hn => by
  obtain ⟨m, hm, rfl⟩ := nogs_mem.1 hn
  exact h.ninit m hm
 goal := fun _ => by
  rcases h.goal with ⟨e, he, _⟩ | ⟨n, hn, h1, h2⟩
  ·cases he
  ·exact ⟨_, nogs_mem.2 ⟨n, hn, rfl⟩, h1, h2⟩
 step := fun n hn k hk hcn z hz => by
  obtain ⟨m, hm, rfl⟩ := nogs_mem.1 hn
  rcases h.step m hm k hk hcn z hz with g | ⟨e, he, _⟩ | ⟨m', hm', g1, g2⟩
  ·exact g.elim
  ·cases he
  ·exact ⟨_, nogs_mem.2 ⟨m', hm', rfl⟩, g1, g2⟩
theorem LowP.few (hr : Right t) {P : PndS} {ns : List Ngd} {es : List En} (h : LowP t b P ns es) : ns.length ≤ npV t.vars := by
 have h1 : (ns.map Ngd.l).Nodup := h.nosub.imp fun {a c} hs e => hs (by rw [e]; exact sub_refl _)
 have h2 := np_bound (vars := t.vars) h1 (fun p hp => by
  obtain ⟨m, hm, rfl⟩ := List.mem_map.1 hp
  exact (h.nrch m hm).fa hr)
 rwa [List.length_map] at h2
/-- One more that contains none. -/
theorem LowP.few1 (hr : Right t) {P : PndS} {ns : List Ngd} {es : List En} (h : LowP t b P ns es) {x : List Fct} (hx : faB t.vars x = true) (hno : ¬ ∃ m ∈ ns, Sub m.l x) : ns.length + 1 ≤ npV t.vars := by
 have h1 : (ns.map Ngd.l ++ [x]).Nodup := by
  rw [List.nodup_append]
  refine ⟨h.nosub.imp fun {a c} hs e => hs (by rw [e]; exact sub_refl _), by simp, fun a ha c hc e => hno ?_⟩
  obtain ⟨m, hm, rfl⟩ := List.mem_map.1 ha
  simp at hc; subst hc
  exact ⟨m, hm, by rw [e]; exact sub_refl _⟩
 have h2 := np_bound (vars := t.vars) h1 (fun p hp => by
  rcases List.mem_append.1 hp with hp | hp
  ·obtain ⟨m, hm, rfl⟩ := List.mem_map.1 hp
   exact (h.nrch m hm).fa hr
  ·simp at hp; rw [hp]; exact hx)
 rw [List.length_append, List.length_map] at h2
 exact h2
/-- All of them come of the goal. -/
theorem LowP.only {P : PndS} {ns : List Ngd} {es : List En} (h : LowP t b P ns es) : ∀ n ∈ ns, Rch t b n.l n.d := h.nrch
end
end Go.Proofs.YtlkebhiaimijiaaGreatDoor

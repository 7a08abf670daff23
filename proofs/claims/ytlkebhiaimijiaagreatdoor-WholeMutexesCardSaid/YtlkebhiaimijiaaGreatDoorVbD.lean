/- slices.Insert of one element into a row of the call's own, walked (printed by gen_ins.py). -/
import Derived.Test.YtlkebhiaimijiaaGreatDoorNgE
import Derived.Shelf.RegionOpenPlain
import Derived.Lib.AppendZerosOnto
import Derived.Lib.Overlaps
import Derived.Laws.Externs
import Derived.Laws.IdiomCopy
import Derived.Laws.NewBlocks
import Derived.Lib.SliceRun
namespace Go.Proofs.YtlkebhiaimijiaaGreatDoor
set_option linter.unusedSimpArgs false
set_option linter.unusedVariables false
open Go Go.RowKit Go.Shelf Go.Lib
set_option linter.unusedVariables false

section
variable {P : Program}
/-- copy, of elements of k cells. -/
theorem run_copy_k (w : World) (dT sT ty elem : TypeId) (b o dLen dCap : Nat) (a : Addr) (sLen sCap k m : Nat) (cs : List Value)
  (hu : P.underlying dT = some (.slice elem)) (hs : (P.info? elem).map (·.size) = some k) (hm : Nat.min sLen dLen = m) (hn : cs.length = m * k)
  (hsrc : ∀ j v, cs[j]? = some v → w.cell? (a.add j) = some v) (hc : ∀ j, j < cs.length → (w.cell? ⟨b, o + j, none⟩).isSome = true) (hf : ∀ j, j < cs.length → w.frozen? ⟨b, o + j, none⟩ = false) (h1 : ∀ v ∈ cs, v.oneCell' = true) :
  (Builtin.copy_ #[dT, sT] ty #[.slice (some ⟨b, o, none⟩) dLen dCap, .slice (some a) sLen sCap]).run P w = .ok (goInt m) (w.setCells b o cs) := by
 have hl := run_loadCells_list (P := P) w a cs hsrc
 have hst := run_storeCells_cells (P := P) b o cs 0 w (by simpa using hc) (by simpa using hf) h1
 cases hq : P.info? elem with
 | none => simp [hq] at hs
 | some i =>
  have hi : i.size = k := by simpa [hq] using hs
  simp [Builtin.copy_, run_underlying hu, Builtin.lenOf, Builtin.firstCells, sizeOf, typeInfo, hq, hi, hm, ← hn, hl, hst]
theorem wpList_copy_runV {w : World} {ops : Array Oper} {rest : List Oper} {o : Oper} {a : Act} {Q : Exit → Act → World → Prop} (hgd : o.guard = none) (d s : Operand) (t t' : TypeId)
  (ho : o.op = .call { callee := .builtin .copy, args := #[d, s], argTypes := #[t, t'] }) (v u : Value) (hd : a.eval d = v) (hs : a.eval s = u) {v' : Value} {w' : World}
  (hr : (Builtin.copy_ #[t, t'] o.type #[v, u]).run P w = .ok v' w') (h : wpList P ops Q rest (a.put o.dst v') w') : wpList P ops Q (o :: rest) a w :=
 wpList_plain hgd fun _ hK => by
  unfold Oper.wp execOp
  simp only [ho, resolve, invoke, builtin, Sem.run_bind, Sem.run_pure, Result.andThen_ok, List.map_toArray, List.map_cons, List.map_nil, hd, hs, hr]
  exact hK _ _ h
theorem step_copy_runV {ops : Array Oper} {o : Oper} {a : Act} {w : World} {K : Act → World → Prop} {Q : Exit → Act → World → Prop} {E : Prop}
  (hg : o.guard = none) (d x : Operand) (dT sT : TypeId) (hop : o.op = Op.call { callee := Callee.builtin Builtin.copy, args := #[d, x], argTypes := #[dT, sT] })
  (v u : Value) (hd : a.eval d = v) (hx : a.eval x = u) {v' : Value} {w' : World} (hr : (Builtin.copy_ #[dT, sT] o.type #[v, u]).run P w = .ok v' w') (hK : K (a.put o.dst v') w') :
  if Region.wanted o (yielded ops a.tmps) = true then Oper.wp P o a w K Q else E := by
 have hw : Region.wanted o (yielded ops a.tmps) = true := by simp [Region.wanted, hg]
 rw [if_pos hw]
 unfold Oper.wp
 simp [execOp, hop, resolve, invoke, builtin, hd, hx, hr, Result.andThen]
 exact hK
end
theorem kbV_sets {X : Nat} : ∀ (vs : List Value) (i : Nat) (w : World), Kb (fun b => b = X) w (w.setCells X i vs)
 | [], i, w => Kb.refl _ _
 | v :: r, i, w => (Kb.set (bad := fun b => b = X) (Kb.refl _ _) (p := ⟨X, i, none⟩) (.inl rfl) v).trans (kbV_sets r (i + 1) _)
theorem own_of_box {w : World} {B g n cap k : Nat} {e : TypeId} {xs R : List Value} (h : BxI w g e (xs ++ R).toArray) (hB : B ≤ g) (hl : xs.length = n * k) (hc : (xs ++ R).length = cap * k) (hn : n ≤ cap) (hm : cap ≤ maxLen) : w.ownsRow B e k (.slice (some ⟨g, 0, none⟩) n cap) n xs :=
 ⟨hl, .inr ⟨g, cap, (xs ++ R).toArray, rfl, hB, h, hn, hm, by simpa using hc, by rw [← hl]; simp⟩⟩
/-- A row of the call's own, its cells and what lies behind them. -/
theorem own_box {w : World} {B g n cap k : Nat} {e : TypeId} {xs : List Value} (h : w.ownsRow B e k (.slice (some ⟨g, 0, none⟩) n cap) n xs) : ∃ R, BxI w g e (xs ++ R).toArray ∧ R.length = (cap - n) * k ∧ n ≤ cap ∧ cap ≤ maxLen ∧ B ≤ g ∧ g < w.heap.size := by
 rcases h.2 with ⟨h0, _⟩ | ⟨b, cap', cur, h1, hb, hg, hnc, hcm, hcs, htk⟩
 ·cases h0
 ·injection h1 with h1 h2 h3
  injection h1 with h1
  injection h1 with h1 _ _
  subst h1 h3
  have e1 : xs ++ cur.toList.drop (n * k) = cur.toList := by rw [← htk]; exact List.take_append_drop _ _
  refine ⟨cur.toList.drop (n * k), ?_, ?_, hnc, hcm, hb, (Array.getElem?_eq_some_iff.1 hg).1⟩
  ·unfold BxI; rw [e1]; exact hg
  ·rw [List.length_drop, Array.length_toList, hcs, Nat.sub_mul]
theorem split_at {l : List Value} {a b : Nat} (h : l.length = a + b) : ∃ x y, l = x ++ y ∧ x.length = a ∧ y.length = b :=
 ⟨l.take a, l.drop a, (List.take_append_drop a l).symm, by rw [List.length_take]; omega, by rw [List.length_drop]; omega⟩
theorem ins_new {w : World} {g p k : Nat} {T : TypeId} {T0 Z R news D : List Value} (h : BxI w g T (T0 ++ Z ++ R).toArray) (hp : T0.length = p) (hk : news.length = k) (hz : Z.length = k + D.length) :
  BxI ((w.setCells g p news).drew.setCells g (p + k) D) g T (T0 ++ news ++ D ++ R).toArray := by
 obtain ⟨Z0, Z1, rfl, h0, h1⟩ := split_at hz
 subst hp hk
 have a := BxI.sets news w T0 Z0 (Z1 ++ R) (by omega) (by simpa using h)
 have b := BxI.sets D (w.setCells g T0.length news).drew (T0 ++ news) Z1 R (by omega) (by
  have : BxI (w.setCells g T0.length news).drew g T (T0 ++ news ++ (Z1 ++ R)).toArray := a
  simpa using this)
 rw [List.length_append] at b
 exact b
theorem ins_room {w : World} {g p k : Nat} {T : TypeId} {T0 D R0 R1 news : List Value} (h : BxI w g T (T0 ++ D ++ (R0 ++ R1)).toArray) (hp : T0.length = p) (hk : news.length = k) (h0 : R0.length = k) :
  BxI ((w.setCells g (p + k) D).setCells g p news) g T (T0 ++ news ++ D ++ R1).toArray := by
 have hz : (D ++ R0).length = k + D.length := by rw [List.length_append]; omega
 obtain ⟨E0, E1, e, h2, h3⟩ := split_at hz
 subst hp
 have e2 : T0 ++ D ++ (R0 ++ R1) = T0 ++ E0 ++ E1 ++ R1 := by
  have : T0 ++ D ++ (R0 ++ R1) = T0 ++ (D ++ R0) ++ R1 := by simp
  rw [this, e]; simp
 rw [e2] at h
 have a := BxI.sets D w (T0 ++ E0) E1 R1 (by omega) h
 rw [List.length_append, h2] at a
 have b := BxI.sets news _ T0 E0 (D ++ R1) (by omega) (by simpa using a)
 simpa using b

theorem ninfL : (Tryz.prog.info? 23).map (fun i => (i.zero, i.size, i.bytes)) = some (some (.slice none 0 0), 1, 24) := by kernel_rfl
theorem nundL : Tryz.prog.underlying 77 = some (.slice 23) := by kernel_rfl
theorem nuintL : Tryz.prog.underlying 3 = some (.int .i64) := by kernel_rfl
theorem nsizL : (Tryz.prog.info? 23).map (·.size) = some 1 := by kernel_rfl
theorem nsiz2L (w : World) : (Go.sizeOf 23).run Tryz.prog w = .ok 1 w := by
 obtain ⟨i, hi, h0, h1, h2⟩ := info_parts ninfL
 simp [Go.sizeOf, typeInfo, hi, h1]
set_option maxRecDepth 100000 in
set_option maxHeartbeats 8000000 in
theorem insL_any {w : World} {B : Nat} (A : Option Addr) (c n i : Nat) (xs : List Value) (H : Nat) (TH : TypeId) (news : List Value) (h : w.ownsRow B 23 1 (.slice A n c) n xs) (hi : i ≤ n) (hn : n ≤ 1000000) (hB : B ≤ w.heap.size)
    (hH : BxI w H TH news.toArray) (hl : news.length = 1) (h1 : ∀ u ∈ news, u.oneCell' = true) (h1x : ∀ u ∈ xs, u.oneCell' = true) (hne : ∀ g, (Value.slice A n c).ownBlock = some g → H ≠ g) :
    Calls Tryz.prog 123 #[.slice A n c, .int .i64 i, .slice (some ⟨H, 0, none⟩) 1 1] w fun e w' =>
      (∃ A' c', e = .returned (.slice A' (n + 1) c') ∧ w'.ownsRow B 23 1 (.slice A' (n + 1) c') (n + 1) (xs.take (i) ++ news ++ xs.drop (i)) ∧ ((Value.slice A' (n + 1) c').ownBlock = (Value.slice A n c).ownBlock ∨ (Value.slice A' (n + 1) c').ownBlock = some w.heap.size)) ∧ Kb (fun b => (Value.slice A n c).ownBlock = some b) w w' := by
  obtain ⟨inf, hinf, iz0, iz1, iz2⟩ := info_parts ninfL
  have hxl := h.1
  have mixed : Tryz.prog.follows .mixedOrders = true := by kernel_rfl
  by_cases hin : i = n
  · subst hin
    have HH := Lib.hid hH
    have HO := Lib.hid h
    have H1 := Lib.hid h1
    have ht : xs.take (i) = xs := List.take_of_length_le (by omega)
    have hd : xs.drop (i) = [] := List.drop_eq_nil_of_le (by omega)
    rw [ht, hd, List.append_nil]
    clear ht hd h hH h1 h1x hne
    have hH : w.heap[H]? = some (.cells news.toArray TH (0, 0)) := HH.out
    have hHlt := HH.out.lt
    go_enter Tryz.func123, Tryz.ntmps123
    cases A with
    | none =>
      have h0 : i = 0 ∧ c = 0 := by
        rcases HO.out.2 with ⟨e, h0⟩ | ⟨g, cap, cur, e, _⟩
        · injection e with _ _ e3; exact ⟨h0, e3⟩
        · cases e
      obtain ⟨rfl, rfl⟩ := h0
      go_wp2_with (at_builtin; refine wpList_append_src (by rfl) _ _ 77 (by rfl) B 23 inf (.slice none 0 0) 1 24 nundL hinf iz0 iz1 iz2 rfl (by decide) (.slice none 0 0) 0 xs (by rfl) HO.out (some ⟨H, 0, none⟩) 1 1 news (by rfl) (src_of (T := TH) hH hl H1.out) (by unfold maxLen; omega) (by omega) hB ?_; intro v' w1 hown' hgrow hat; obtain ⟨A', c', rfl⟩ := own_shape hown'; have Hown := Lib.hid hown'; have Hgrow := Lib.hid hgrow; have Hat := Lib.hid hat; clear hown' hgrow hat)
      go_ret
      exact ⟨⟨A', c', rfl, by simpa using Hown.out, Hat.out⟩, Kb.grown (Kb.refl _ _) Hgrow.out fun k hk => .inl hk⟩
    | some ad =>
      obtain ⟨ab, ao, asp⟩ := ad
      have hic : i ≤ c := by
        rcases HO.out.2 with ⟨e, h0⟩ | ⟨g, cap, cur, e, _, _, h2, h3, _⟩
        · cases e
        · injection e with _ _ e3; omega
      have hcm : c ≤ 9223372036854775807 := by
        rcases HO.out.2 with ⟨e, h0⟩ | ⟨g, cap, cur, e, _, _, h2, h3, _⟩
        · cases e
        · injection e with _ _ e3; unfold maxLen at h3; omega
      go_wp2_with (at_builtin; refine wpList_append_src (by rfl) _ _ 77 (by rfl) B 23 inf (.slice none 0 0) 1 24 nundL hinf iz0 iz1 iz2 rfl (by decide) (.slice (some ⟨ab, ao, asp⟩) i c) i xs (by rfl) HO.out (some ⟨H, 0, none⟩) 1 1 news (by rfl) (src_of (T := TH) hH hl H1.out) (by unfold maxLen; omega) (by omega) hB ?_; intro v' w1 hown' hgrow hat; obtain ⟨A', c', rfl⟩ := own_shape hown'; have Hown := Lib.hid hown'; have Hgrow := Lib.hid hgrow; have Hat := Lib.hid hat; clear hown' hgrow hat)
      all_goals (go_ret; exact ⟨⟨A', c', rfl, Hown.out, Hat.out⟩, Kb.grown (Kb.refl _ _) Hgrow.out fun k hk => .inl hk⟩)
  · have hin' : i < n := by omega
    obtain ⟨g, rfl⟩ : ∃ g, A = some ⟨g, 0, none⟩ := by
      rcases h.2 with ⟨e, h0⟩ | ⟨g, cap, cur, e, _⟩
      · omega
      · injection e with e; exact ⟨g, e⟩
    have hHg : H ≠ g := hne g rfl
    obtain ⟨R, hbx, hR, hnc, hcm, hBg, hgw⟩ := own_box h
    have hcm' : c ≤ 9223372036854775807 := by unfold maxLen at hcm; omega
    obtain ⟨T0, D, hx, hT, hD⟩ := split_at (l := xs) (a := i) (b := (n - i)) (by omega)
    have ht : xs.take (i) = T0 := by rw [hx, ← hT]; simp
    have hd : xs.drop (i) = D := by rw [hx, ← hT]; simp
    rw [ht, hd]
    have h1D : ∀ u ∈ D, u.oneCell' = true := fun u hu => h1x u (by rw [hx]; simp [hu])
    have hcell : ∀ j u, xs[j]? = some u → w.cell? ⟨g, j, none⟩ = some u := fun j u hj => own_cell h hj
    have hDc : ∀ j u, D[j]? = some u → w.cell? ⟨g, i + j, none⟩ = some u := fun j u hj => hcell _ _ (by rw [hx, ← hT, List.getElem?_append_right (by omega), Nat.add_sub_cancel_left]; exact hj)
    have hTc : ∀ j u, T0[j]? = some u → w.cell? ⟨g, j, none⟩ = some u := fun j u hj => hcell _ _ (by rw [hx, List.getElem?_append_left (List.getElem?_eq_some_iff.1 hj).1]; exact hj)
    have hNc : ∀ j u, news[j]? = some u → w.cell? ⟨H, j, none⟩ = some u := fun j u hj => hH.cell j u (by simpa using hj)
    have hHlt := hH.lt
    have hzz : ¬ ((i : Int) = (n : Int)) := by omega
    have hb1 : (0 : Int) ≤ (i : Int) + 1 := by omega
    have htn : ((i : Int) + 1).toNat = i + 1 := by omega
    have hb3 : (i : Int) ≤ (n : Int) := by omega
    by_cases hroom : c < n + 1
    · -- no room: a new row
      have hkk : (n : Int) + 1 - (i : Int) = ((n + 1 - i : Nat) : Int) := by omega
      have hik : i + (n + 1 - i) = n + 1 := by omega
      have hold : (Builtin.firstCells inf.size i (.slice (some ⟨g, 0, none⟩) i c)).run Tryz.prog w.drew = .ok T0.toArray w.drew := by
        rw [iz1]
        exact run_firstCells_some (w := w.drew) 1 i ⟨g, 0, none⟩ i c T0 (by omega) (fun j v hj => by rw [Addr.add_lit, Nat.zero_add]; exact hTc j v hj)
      have hrz : ∀ ty, (Builtin.append_ #[77, 3] ty #[.slice (some ⟨g, 0, none⟩) i c, .int .i64 ((n : Int) + 1 - (i : Int))]).run Tryz.prog w =
          .ok (.slice (some ⟨w.heap.size, 0, none⟩) (n + 1) (grownCap w (n + 1) c 23)) (w.drew.alloc (.cells (T0.toArray ++ Builtin.zeroCells (Value.cells (.slice none 0 0)) (n + 1 - i) ++ Builtin.zeroCells (Value.cells (.slice none 0 0)) (grownCap w (n + 1) c 23 - (n + 1))) 23)) := fun ty => by
        have h := Lib.run_append_grow_zeros w 77 3 ty 23 inf _ .i64 .i64 nundL nuintL hinf iz0 (some ⟨g, 0, none⟩) i c T0 hold (n + 1 - i) (by omega) (by omega) (by omega) (by omega) (by rw [iz2]; omega) (by rw [iz2, hik]; exact growslice_fits hroom (by omega))
        rw [hik] at h
        rw [hkk]
        exact h
      obtain ⟨G, hG⟩ : ∃ G, G = grownCap w (n + 1) c 23 := ⟨_, rfl⟩
      have hGn : n + 1 ≤ G := by rw [hG]; exact grownCap_ge w _ _ _
      have hGm : G ≤ maxLen := by rw [hG]; exact grownCap_le_maxLen w (n + 1) c _ (by unfold maxLen; omega)
      rw [← hG] at hrz
      obtain ⟨Z, hZ⟩ : ∃ Z, Z = (Builtin.zeroCells (Value.cells (.slice none 0 0)) (n + 1 - i)).toList := ⟨_, rfl⟩
      obtain ⟨RR, hRR⟩ : ∃ RR, RR = (Builtin.zeroCells (Value.cells (.slice none 0 0)) (G - (n + 1))).toList := ⟨_, rfl⟩
      have hZl : Z.length = (n + 1 - i) := by rw [hZ]; simp [Builtin.zeroCells, Value.cells]
      have hRl : RR.length = (G - (n + 1)) := by rw [hRR]; simp [Builtin.zeroCells, Value.cells]
      have hROW : T0.toArray ++ Builtin.zeroCells (Value.cells (.slice none 0 0)) (n + 1 - i) ++ Builtin.zeroCells (Value.cells (.slice none 0 0)) (G - (n + 1)) = (T0 ++ Z ++ RR).toArray := by rw [hZ, hRR]; simp
      rw [hROW] at hrz
      obtain ⟨W1, hW1⟩ : ∃ W1, W1 = w.drew.alloc (.cells (T0 ++ Z ++ RR).toArray 23) := ⟨_, rfl⟩
      have hBX : BxI W1 w.heap.size 23 (T0 ++ Z ++ RR).toArray := by rw [hW1]; exact BxI.new w.drew _ _
      have hb01 : Below w.heap.size w W1 := by rw [hW1]; exact (Below.refl _ _).drew.alloc (Nat.le_refl _) _
      rw [← hW1] at hrz
      clear hW1 hROW hold hZ hRR
      have hal : (T0 ++ Z ++ RR).length = G := by simp only [List.length_append, hT, hZl, hRl]; omega
      have hthere : ∀ (W : World), BxI W w.heap.size 23 (T0 ++ Z ++ RR).toArray → ∀ j, j < G → (W.cell? ⟨w.heap.size, j, none⟩).isSome = true := fun W hW j hj => by
        rw [hW.cell j _ (Array.getElem?_eq_getElem (by simpa using (show j < (T0 ++ Z ++ RR).length by omega)))]; rfl
      obtain ⟨W2, hW2⟩ : ∃ W2, W2 = W1.setCells w.heap.size (i) news := ⟨_, rfl⟩
      have hcpA : ∀ ty dc, (Builtin.copy_ #[77, 77] ty #[.slice (some ⟨w.heap.size, i, none⟩) (n + 1 - i) dc, .slice (some ⟨H, 0, none⟩) 1 1]).run Tryz.prog W1 = .ok (goInt 1) W2 := fun ty dc => by
        rw [hW2]
        exact run_copy_k W1 _ _ ty 23 w.heap.size (i) (n + 1 - i) dc ⟨H, 0, none⟩ 1 1 1 1 news nundL nsizL (by simp only [Nat.min_def]; split <;> omega) (by omega)
          (fun j v hj => by rw [Addr.add_lit, Nat.zero_add]; exact (hb01.cell (p := ⟨H, j, none⟩) hHlt).trans (hNc j v hj))
          (fun j hj => hthere W1 hBX _ (by omega)) (fun j hj => hBX.fz _) h1
      have hb02 : Below w.heap.size w W2 := by rw [hW2]; exact below_sets _ _ _ hb01 (Nat.le_refl _)
      have hcpB : ∀ ty dc sc, (Builtin.copy_ #[77, 77] ty #[.slice (some ⟨w.heap.size, (i + 1), none⟩) (n + 1 - (i + 1)) dc, .slice (some ⟨g, i, none⟩) (n - i) sc]).run Tryz.prog W2.drew = .ok (goInt ((n - i : Nat) : Int)) (W2.drew.setCells w.heap.size ((i + 1)) D) := fun ty dc sc =>
        run_copy_k W2.drew _ _ ty 23 w.heap.size ((i + 1)) (n + 1 - (i + 1)) dc ⟨g, i, none⟩ (n - i) sc 1 (n - i) D nundL nsizL (by simp only [Nat.min_def]; split <;> omega) (by omega)
          (fun j v hj => by rw [Addr.add_lit]; exact (hb02.drew.cell (p := ⟨g, _, none⟩) hgw).trans (hDc j v hj))
          (fun j hj => by
            show (W2.cell? _).isSome = true
            rw [hW2]
            exact (there_sets (b := w.heap.size) (i := (i + 1)) (n := (n - i)) (fun j' hj' => ⟨hthere W1 hBX _ (by omega), hBX.fz _⟩) j (by omega)).1)
          (fun j hj => by
            show W2.frozen? _ = false
            rw [hW2, World.frozen?_setCells]; exact hBX.fz _) h1D
      have hfin : BxI (W2.drew.setCells w.heap.size ((i + 1)) D) w.heap.size 23 (T0 ++ news ++ D ++ RR).toArray := by
        rw [hW2]
        exact ins_new hBX hT hl (by omega)
      have hbf : Below w.heap.size w (W2.drew.setCells w.heap.size ((i + 1)) D) := below_sets _ _ _ hb02.drew (Nat.le_refl _)
      have HF := Lib.hid hfin
      have HBF := Lib.hid hbf
      have hGi : ¬ (G = i) := by omega
      have hw1 : IntKind.i64.wrap ((i : Int) + 1) = (i : Int) + 1 := by rw [IntKind.wrap_i64]; omega
      have hb4 : (i : Int) + 1 ≤ (n : Int) + 1 := by omega
      have hGim : ¬ (G = i + 1) := by omega
      have hci : ¬ (c = i) := by omega
      have hG63 : G ≤ 9223372036854775807 := by unfold maxLen at hGm; omega
      clear hfin hbf hBX hb01 hb02 hthere hW2 hcell hDc hTc hNc hbx h hH hx ht hd h1D h1x h1 hkk hik hG
      go_enter Tryz.func123, Tryz.ntmps123
      go_wp2_with (first
        | (at_builtin; refine Lib.wpList_append_run _ rfl _ _ _ _ rfl _ _ rfl rfl _ _ (hrz _) ?_)
        | (at_builtin; refine wpList_copy_runV rfl _ _ 77 77 rfl _ _ rfl rfl (hcpA _ _) ?_))
      go_region_law_o (refine step_copy_runV rfl _ _ 77 77 rfl (.slice (some ⟨w.heap.size, (i + 1), none⟩) (n + 1 - (i + 1)) (G - (i + 1))) (.slice (some ⟨g, i, none⟩) (n - i) (c - i)) (by simp [Act.eval, Act.put]) (by simp [Act.eval, Act.put]) (hcpB _ _ _) ?_)
      go_wp2
      go_ret
      exact ⟨⟨_, _, rfl, own_of_box HF.out hB (by simp only [List.length_append]; omega) (by simp only [List.length_append]; omega) hGn hGm, .inr rfl⟩, Kb.of_below HBF.out⟩
    · -- room
      obtain ⟨R0, R1, rfl, hR0, hR1⟩ := split_at (l := R) (a := 1) (b := (c - (n + 1))) (by omega)
      rw [hx] at hbx
      obtain ⟨cur, hcur⟩ : ∃ cur, cur = T0 ++ D ++ (R0 ++ R1) := ⟨_, rfl⟩
      have hcl : cur.length = c := by rw [hcur]; simp only [List.length_append]; omega
      have hbx' : BxI w g 23 cur.toArray := by rw [hcur]; exact hbx
      have hov : ∀ lb cb, (callFunc 147 #[.slice (some ⟨H, 0, none⟩) 1 1, .slice (some ⟨g, (i + 1), none⟩) lb cb]).run Tryz.prog w = .ok (.value (.bool false)) w := fun lb cb => by
        rw [run_callFunc_extern Tryz.func147 (by kernel_rfl) (by kernel_rfl) (by kernel_rfl) (e := Extern.SlicesOverlaps.overlaps #[77, 77] #[4]) (by kernel_rfl),
          Lib.run_overlaps_apart w 77 4 23 nundL 1 nsiz2L ⟨H, 0, none⟩ ⟨g, (i + 1), none⟩ 1 1 lb cb hHg TH 23 news.toArray.size cur.toArray.size (by unfold BxI at hH; simp [World.shape?, hH]) (by unfold BxI at hbx'; simp [World.shape?, hbx']) (by rw [List.size_toArray, hcl]; omega) (hH.fz _) (hH.fz _)]
        rfl
      have hthere : ∀ j, j < c → (w.drew.cell? ⟨g, j, none⟩).isSome = true := fun j hj => by
        show (w.cell? _).isSome = true
        rw [hbx'.cell j _ (Array.getElem?_eq_getElem (by simpa using (show j < cur.length by omega)))]; rfl
      have hfz : ∀ j, w.drew.frozen? ⟨g, j, none⟩ = false := fun j => hbx'.fz j
      obtain ⟨W1, hW1⟩ : ∃ W1, W1 = w.drew.setCells g ((i + 1)) D := ⟨_, rfl⟩
      have hcp1 : ∀ ty dc sc, (Builtin.copy_ #[77, 77] ty #[.slice (some ⟨g, (i + 1), none⟩) (n + 1 - (i + 1)) dc, .slice (some ⟨g, i, none⟩) (n + 1 - i) sc]).run Tryz.prog w.drew = .ok (goInt ((n - i : Nat) : Int)) W1 := fun ty dc sc => by
        rw [hW1]
        exact run_copy_k w.drew _ _ ty 23 g ((i + 1)) (n + 1 - (i + 1)) dc ⟨g, i, none⟩ (n + 1 - i) sc 1 (n - i) D nundL nsizL (by simp only [Nat.min_def]; split <;> omega) (by omega)
          (fun j v hj => by rw [Addr.add_lit]; exact hDc j v hj) (fun j hj => hthere _ (by omega)) (fun j hj => hfz _) h1D
      have hK1 : Kb (fun b => b = g) w W1 := by rw [hW1]; exact (Kb.refl _ w).drew.trans (kbV_sets _ _ _)
      obtain ⟨W2, hW2⟩ : ∃ W2, W2 = W1.setCells g (i) news := ⟨_, rfl⟩
      have hcp2 : ∀ ty dc, (Builtin.copy_ #[77, 77] ty #[.slice (some ⟨g, i, none⟩) (n + 1 - i) dc, .slice (some ⟨H, 0, none⟩) 1 1]).run Tryz.prog W1 = .ok (goInt 1) W2 := fun ty dc => by
        rw [hW2]
        exact run_copy_k W1 _ _ ty 23 g (i) (n + 1 - i) dc ⟨H, 0, none⟩ 1 1 1 1 news nundL nsizL (by simp only [Nat.min_def]; split <;> omega) (by omega)
          (fun j v hj => by rw [Addr.add_lit, Nat.zero_add]; exact (hK1.cell (p := ⟨H, j, none⟩) hHlt hHg).trans (hNc j v hj))
          (fun j hj => by rw [hW1]; exact (there_sets (b := g) (i := i) (n := 1) (fun j' hj' => ⟨hthere _ (by omega), hfz _⟩) j (by omega)).1)
          (fun j hj => by rw [hW1, World.frozen?_setCells]; exact hfz _) h1
      have hfin : BxI W2 g 23 (T0 ++ news ++ D ++ R1).toArray := by
        rw [hW2, hW1]
        exact ins_room (w := w.drew) hbx hT hl hR0
      have hK2 : Kb (fun b => b = g) w W2 := by rw [hW2]; exact hK1.trans (kbV_sets _ _ _)
      have HF := Lib.hid hfin
      have HK := Lib.hid hK2
      have hw1 : IntKind.i64.wrap ((i : Int) + 1) = (i : Int) + 1 := by rw [IntKind.wrap_i64]; omega
      have hb2 : ¬ (c = i + 1) := by omega
      have hb4 : (i : Int) + 1 ≤ (n : Int) + 1 := by omega
      have hb5 : (i : Int) ≤ (n : Int) + 1 := by omega
      have hci : ¬ (c = i) := by omega
      clear hfin hK2 hK1 hW2 hW1 hthere hfz hbx hbx' hcell hDc hTc hNc h hH hx ht hd h1D h1x h1 hcur
      go_enter Tryz.func123, Tryz.ntmps123
      go_wp2_with (simp only [hov])
      go_region_law_o (refine step_copy_runV rfl _ _ 77 77 rfl (.slice (some ⟨g, (i + 1), none⟩) (n + 1 - (i + 1)) (c - (i + 1))) (.slice (some ⟨g, i, none⟩) (n + 1 - i) (c - i)) (by simp [Act.eval, Act.put]) (by simp [Act.eval, Act.put]) (hcp1 _ _ _) ?_)
      go_wp2_with (at_builtin; refine wpList_copy_runV rfl _ _ 77 77 rfl _ _ rfl rfl (hcp2 _ _) ?_)
      go_ret
      exact ⟨⟨_, _, rfl, own_of_box HF.out hBg (by simp only [List.length_append]; omega) (by simp only [List.length_append]; omega) (by omega) hcm, .inl rfl⟩, HK.out.os, HK.out.tape, HK.out.output, HK.out.size, fun b hb hne => HK.out.block b hb (fun e => hne (by rw [e]; rfl))⟩

theorem ninfF : (Tryz.prog.info? 68).map (fun i => (i.zero, i.size, i.bytes)) = some (some (.agg #[.int .i64 0, .int .i64 0]), 2, 16) := by kernel_rfl
theorem nundF : Tryz.prog.underlying 23 = some (.slice 68) := by kernel_rfl
theorem nuintF : Tryz.prog.underlying 3 = some (.int .i64) := by kernel_rfl
theorem nsizF : (Tryz.prog.info? 68).map (·.size) = some 2 := by kernel_rfl
theorem nsiz2F (w : World) : (Go.sizeOf 68).run Tryz.prog w = .ok 2 w := by
 obtain ⟨i, hi, h0, h1, h2⟩ := info_parts ninfF
 simp [Go.sizeOf, typeInfo, hi, h1]
set_option maxRecDepth 100000 in
set_option maxHeartbeats 8000000 in
theorem insF_any {w : World} {B : Nat} (A : Option Addr) (c n i : Nat) (xs : List Value) (H : Nat) (TH : TypeId) (news : List Value) (h : w.ownsRow B 68 2 (.slice A n c) n xs) (hi : i ≤ n) (hn : n ≤ 1000000) (hB : B ≤ w.heap.size)
    (hH : BxI w H TH news.toArray) (hl : news.length = 2) (h1 : ∀ u ∈ news, u.oneCell' = true) (h1x : ∀ u ∈ xs, u.oneCell' = true) (hne : ∀ g, (Value.slice A n c).ownBlock = some g → H ≠ g) :
    Calls Tryz.prog 170 #[.slice A n c, .int .i64 i, .slice (some ⟨H, 0, none⟩) 1 1] w fun e w' =>
      (∃ A' c', e = .returned (.slice A' (n + 1) c') ∧ w'.ownsRow B 68 2 (.slice A' (n + 1) c') (n + 1) (xs.take (i * 2) ++ news ++ xs.drop (i * 2)) ∧ ((Value.slice A' (n + 1) c').ownBlock = (Value.slice A n c).ownBlock ∨ (Value.slice A' (n + 1) c').ownBlock = some w.heap.size)) ∧ Kb (fun b => (Value.slice A n c).ownBlock = some b) w w' := by
  obtain ⟨inf, hinf, iz0, iz1, iz2⟩ := info_parts ninfF
  have hxl := h.1
  have mixed : Tryz.prog.follows .mixedOrders = true := by kernel_rfl
  by_cases hin : i = n
  · subst hin
    have HH := Lib.hid hH
    have HO := Lib.hid h
    have H1 := Lib.hid h1
    have ht : xs.take (i * 2) = xs := List.take_of_length_le (by omega)
    have hd : xs.drop (i * 2) = [] := List.drop_eq_nil_of_le (by omega)
    rw [ht, hd, List.append_nil]
    clear ht hd h hH h1 h1x hne
    have hH : w.heap[H]? = some (.cells news.toArray TH (0, 0)) := HH.out
    have hHlt := HH.out.lt
    go_enter Tryz.func170, Tryz.ntmps170
    cases A with
    | none =>
      have h0 : i = 0 ∧ c = 0 := by
        rcases HO.out.2 with ⟨e, h0⟩ | ⟨g, cap, cur, e, _⟩
        · injection e with _ _ e3; exact ⟨h0, e3⟩
        · cases e
      obtain ⟨rfl, rfl⟩ := h0
      go_wp2_with (at_builtin; refine wpList_append_src (by rfl) _ _ 23 (by rfl) B 68 inf (.agg #[.int .i64 0, .int .i64 0]) 2 16 nundF hinf iz0 iz1 iz2 rfl (by decide) (.slice none 0 0) 0 xs (by rfl) HO.out (some ⟨H, 0, none⟩) 1 1 news (by rfl) (src_of (T := TH) hH hl H1.out) (by unfold maxLen; omega) (by omega) hB ?_; intro v' w1 hown' hgrow hat; obtain ⟨A', c', rfl⟩ := own_shape hown'; have Hown := Lib.hid hown'; have Hgrow := Lib.hid hgrow; have Hat := Lib.hid hat; clear hown' hgrow hat)
      go_ret
      exact ⟨⟨A', c', rfl, by simpa using Hown.out, Hat.out⟩, Kb.grown (Kb.refl _ _) Hgrow.out fun k hk => .inl hk⟩
    | some ad =>
      obtain ⟨ab, ao, asp⟩ := ad
      have hic : i ≤ c := by
        rcases HO.out.2 with ⟨e, h0⟩ | ⟨g, cap, cur, e, _, _, h2, h3, _⟩
        · cases e
        · injection e with _ _ e3; omega
      have hcm : c ≤ 9223372036854775807 := by
        rcases HO.out.2 with ⟨e, h0⟩ | ⟨g, cap, cur, e, _, _, h2, h3, _⟩
        · cases e
        · injection e with _ _ e3; unfold maxLen at h3; omega
      go_wp2_with (at_builtin; refine wpList_append_src (by rfl) _ _ 23 (by rfl) B 68 inf (.agg #[.int .i64 0, .int .i64 0]) 2 16 nundF hinf iz0 iz1 iz2 rfl (by decide) (.slice (some ⟨ab, ao, asp⟩) i c) i xs (by rfl) HO.out (some ⟨H, 0, none⟩) 1 1 news (by rfl) (src_of (T := TH) hH hl H1.out) (by unfold maxLen; omega) (by omega) hB ?_; intro v' w1 hown' hgrow hat; obtain ⟨A', c', rfl⟩ := own_shape hown'; have Hown := Lib.hid hown'; have Hgrow := Lib.hid hgrow; have Hat := Lib.hid hat; clear hown' hgrow hat)
      all_goals (go_ret; exact ⟨⟨A', c', rfl, Hown.out, Hat.out⟩, Kb.grown (Kb.refl _ _) Hgrow.out fun k hk => .inl hk⟩)
  · have hin' : i < n := by omega
    obtain ⟨g, rfl⟩ : ∃ g, A = some ⟨g, 0, none⟩ := by
      rcases h.2 with ⟨e, h0⟩ | ⟨g, cap, cur, e, _⟩
      · omega
      · injection e with e; exact ⟨g, e⟩
    have hHg : H ≠ g := hne g rfl
    obtain ⟨R, hbx, hR, hnc, hcm, hBg, hgw⟩ := own_box h
    have hcm' : c ≤ 9223372036854775807 := by unfold maxLen at hcm; omega
    obtain ⟨T0, D, hx, hT, hD⟩ := split_at (l := xs) (a := i * 2) (b := (n - i) * 2) (by omega)
    have ht : xs.take (i * 2) = T0 := by rw [hx, ← hT]; simp
    have hd : xs.drop (i * 2) = D := by rw [hx, ← hT]; simp
    rw [ht, hd]
    have h1D : ∀ u ∈ D, u.oneCell' = true := fun u hu => h1x u (by rw [hx]; simp [hu])
    have hcell : ∀ j u, xs[j]? = some u → w.cell? ⟨g, j, none⟩ = some u := fun j u hj => own_cell h hj
    have hDc : ∀ j u, D[j]? = some u → w.cell? ⟨g, i * 2 + j, none⟩ = some u := fun j u hj => hcell _ _ (by rw [hx, ← hT, List.getElem?_append_right (by omega), Nat.add_sub_cancel_left]; exact hj)
    have hTc : ∀ j u, T0[j]? = some u → w.cell? ⟨g, j, none⟩ = some u := fun j u hj => hcell _ _ (by rw [hx, List.getElem?_append_left (List.getElem?_eq_some_iff.1 hj).1]; exact hj)
    have hNc : ∀ j u, news[j]? = some u → w.cell? ⟨H, j, none⟩ = some u := fun j u hj => hH.cell j u (by simpa using hj)
    have hHlt := hH.lt
    have hzz : ¬ ((i : Int) = (n : Int)) := by omega
    have hb1 : (0 : Int) ≤ (i : Int) + 1 := by omega
    have htn : ((i : Int) + 1).toNat = i + 1 := by omega
    have hb3 : (i : Int) ≤ (n : Int) := by omega
    by_cases hroom : c < n + 1
    · -- no room: a new row
      have hkk : (n : Int) + 1 - (i : Int) = ((n + 1 - i : Nat) : Int) := by omega
      have hik : i + (n + 1 - i) = n + 1 := by omega
      have hold : (Builtin.firstCells inf.size i (.slice (some ⟨g, 0, none⟩) i c)).run Tryz.prog w.drew = .ok T0.toArray w.drew := by
        rw [iz1]
        exact run_firstCells_some (w := w.drew) 2 i ⟨g, 0, none⟩ i c T0 (by omega) (fun j v hj => by rw [Addr.add_lit, Nat.zero_add]; exact hTc j v hj)
      have hrz : ∀ ty, (Builtin.append_ #[23, 3] ty #[.slice (some ⟨g, 0, none⟩) i c, .int .i64 ((n : Int) + 1 - (i : Int))]).run Tryz.prog w =
          .ok (.slice (some ⟨w.heap.size, 0, none⟩) (n + 1) (grownCap w (n + 1) c 68)) (w.drew.alloc (.cells (T0.toArray ++ Builtin.zeroCells (Value.cells (.agg #[.int .i64 0, .int .i64 0])) (n + 1 - i) ++ Builtin.zeroCells (Value.cells (.agg #[.int .i64 0, .int .i64 0])) (grownCap w (n + 1) c 68 - (n + 1))) 68)) := fun ty => by
        have h := Lib.run_append_grow_zeros w 23 3 ty 68 inf _ .i64 .i64 nundF nuintF hinf iz0 (some ⟨g, 0, none⟩) i c T0 hold (n + 1 - i) (by omega) (by omega) (by omega) (by omega) (by rw [iz2]; omega) (by rw [iz2, hik]; exact growslice_fits hroom (by omega))
        rw [hik] at h
        rw [hkk]
        exact h
      obtain ⟨G, hG⟩ : ∃ G, G = grownCap w (n + 1) c 68 := ⟨_, rfl⟩
      have hGn : n + 1 ≤ G := by rw [hG]; exact grownCap_ge w _ _ _
      have hGm : G ≤ maxLen := by rw [hG]; exact grownCap_le_maxLen w (n + 1) c _ (by unfold maxLen; omega)
      rw [← hG] at hrz
      obtain ⟨Z, hZ⟩ : ∃ Z, Z = (Builtin.zeroCells (Value.cells (.agg #[.int .i64 0, .int .i64 0])) (n + 1 - i)).toList := ⟨_, rfl⟩
      obtain ⟨RR, hRR⟩ : ∃ RR, RR = (Builtin.zeroCells (Value.cells (.agg #[.int .i64 0, .int .i64 0])) (G - (n + 1))).toList := ⟨_, rfl⟩
      have hZl : Z.length = (n + 1 - i) * 2 := by rw [hZ]; simp [Builtin.zeroCells, Value.cells]
      have hRl : RR.length = (G - (n + 1)) * 2 := by rw [hRR]; simp [Builtin.zeroCells, Value.cells]
      have hROW : T0.toArray ++ Builtin.zeroCells (Value.cells (.agg #[.int .i64 0, .int .i64 0])) (n + 1 - i) ++ Builtin.zeroCells (Value.cells (.agg #[.int .i64 0, .int .i64 0])) (G - (n + 1)) = (T0 ++ Z ++ RR).toArray := by rw [hZ, hRR]; simp
      rw [hROW] at hrz
      obtain ⟨W1, hW1⟩ : ∃ W1, W1 = w.drew.alloc (.cells (T0 ++ Z ++ RR).toArray 68) := ⟨_, rfl⟩
      have hBX : BxI W1 w.heap.size 68 (T0 ++ Z ++ RR).toArray := by rw [hW1]; exact BxI.new w.drew _ _
      have hb01 : Below w.heap.size w W1 := by rw [hW1]; exact (Below.refl _ _).drew.alloc (Nat.le_refl _) _
      rw [← hW1] at hrz
      clear hW1 hROW hold hZ hRR
      have hal : (T0 ++ Z ++ RR).length = G * 2 := by simp only [List.length_append, hT, hZl, hRl]; omega
      have hthere : ∀ (W : World), BxI W w.heap.size 68 (T0 ++ Z ++ RR).toArray → ∀ j, j < G * 2 → (W.cell? ⟨w.heap.size, j, none⟩).isSome = true := fun W hW j hj => by
        rw [hW.cell j _ (Array.getElem?_eq_getElem (by simpa using (show j < (T0 ++ Z ++ RR).length by omega)))]; rfl
      obtain ⟨W2, hW2⟩ : ∃ W2, W2 = W1.setCells w.heap.size (i * 2) news := ⟨_, rfl⟩
      have hcpA : ∀ ty dc, (Builtin.copy_ #[23, 23] ty #[.slice (some ⟨w.heap.size, i * 2, none⟩) (n + 1 - i) dc, .slice (some ⟨H, 0, none⟩) 1 1]).run Tryz.prog W1 = .ok (goInt 1) W2 := fun ty dc => by
        rw [hW2]
        exact run_copy_k W1 _ _ ty 68 w.heap.size (i * 2) (n + 1 - i) dc ⟨H, 0, none⟩ 1 1 2 1 news nundF nsizF (by simp only [Nat.min_def]; split <;> omega) (by omega)
          (fun j v hj => by rw [Addr.add_lit, Nat.zero_add]; exact (hb01.cell (p := ⟨H, j, none⟩) hHlt).trans (hNc j v hj))
          (fun j hj => hthere W1 hBX _ (by omega)) (fun j hj => hBX.fz _) h1
      have hb02 : Below w.heap.size w W2 := by rw [hW2]; exact below_sets _ _ _ hb01 (Nat.le_refl _)
      have hcpB : ∀ ty dc sc, (Builtin.copy_ #[23, 23] ty #[.slice (some ⟨w.heap.size, (i + 1) * 2, none⟩) (n + 1 - (i + 1)) dc, .slice (some ⟨g, i * 2, none⟩) (n - i) sc]).run Tryz.prog W2.drew = .ok (goInt ((n - i : Nat) : Int)) (W2.drew.setCells w.heap.size ((i + 1) * 2) D) := fun ty dc sc =>
        run_copy_k W2.drew _ _ ty 68 w.heap.size ((i + 1) * 2) (n + 1 - (i + 1)) dc ⟨g, i * 2, none⟩ (n - i) sc 2 (n - i) D nundF nsizF (by simp only [Nat.min_def]; split <;> omega) (by omega)
          (fun j v hj => by rw [Addr.add_lit]; exact (hb02.drew.cell (p := ⟨g, _, none⟩) hgw).trans (hDc j v hj))
          (fun j hj => by
            show (W2.cell? _).isSome = true
            rw [hW2]
            exact (there_sets (b := w.heap.size) (i := (i + 1) * 2) (n := (n - i) * 2) (fun j' hj' => ⟨hthere W1 hBX _ (by omega), hBX.fz _⟩) j (by omega)).1)
          (fun j hj => by
            show W2.frozen? _ = false
            rw [hW2, World.frozen?_setCells]; exact hBX.fz _) h1D
      have hfin : BxI (W2.drew.setCells w.heap.size ((i + 1) * 2) D) w.heap.size 68 (T0 ++ news ++ D ++ RR).toArray := by
        rw [hW2, show (i + 1) * 2 = i * 2 + 2 by omega]
        exact ins_new hBX hT hl (by omega)
      have hbf : Below w.heap.size w (W2.drew.setCells w.heap.size ((i + 1) * 2) D) := below_sets _ _ _ hb02.drew (Nat.le_refl _)
      have HF := Lib.hid hfin
      have HBF := Lib.hid hbf
      have hGi : ¬ (G = i) := by omega
      have hw1 : IntKind.i64.wrap ((i : Int) + 1) = (i : Int) + 1 := by rw [IntKind.wrap_i64]; omega
      have hb4 : (i : Int) + 1 ≤ (n : Int) + 1 := by omega
      have hGim : ¬ (G = i + 1) := by omega
      have hci : ¬ (c = i) := by omega
      have hG63 : G ≤ 9223372036854775807 := by unfold maxLen at hGm; omega
      clear hfin hbf hBX hb01 hb02 hthere hW2 hcell hDc hTc hNc hbx h hH hx ht hd h1D h1x h1 hkk hik hG
      go_enter Tryz.func170, Tryz.ntmps170
      go_wp2_with (first
        | (at_builtin; refine Lib.wpList_append_run _ rfl _ _ _ _ rfl _ _ rfl rfl _ _ (hrz _) ?_)
        | (at_builtin; refine wpList_copy_runV rfl _ _ 23 23 rfl _ _ rfl rfl (hcpA _ _) ?_))
      go_region_law_o (refine step_copy_runV rfl _ _ 23 23 rfl (.slice (some ⟨w.heap.size, (i + 1) * 2, none⟩) (n + 1 - (i + 1)) (G - (i + 1))) (.slice (some ⟨g, i * 2, none⟩) (n - i) (c - i)) (by simp [Act.eval, Act.put]) (by simp [Act.eval, Act.put]) (hcpB _ _ _) ?_)
      go_wp2
      go_ret
      exact ⟨⟨_, _, rfl, own_of_box HF.out hB (by simp only [List.length_append]; omega) (by simp only [List.length_append]; omega) hGn hGm, .inr rfl⟩, Kb.of_below HBF.out⟩
    · -- room
      obtain ⟨R0, R1, rfl, hR0, hR1⟩ := split_at (l := R) (a := 2) (b := (c - (n + 1)) * 2) (by omega)
      rw [hx] at hbx
      obtain ⟨cur, hcur⟩ : ∃ cur, cur = T0 ++ D ++ (R0 ++ R1) := ⟨_, rfl⟩
      have hcl : cur.length = c * 2 := by rw [hcur]; simp only [List.length_append]; omega
      have hbx' : BxI w g 68 cur.toArray := by rw [hcur]; exact hbx
      have hov : ∀ lb cb, (callFunc 177 #[.slice (some ⟨H, 0, none⟩) 1 1, .slice (some ⟨g, (i + 1) * 2, none⟩) lb cb]).run Tryz.prog w = .ok (.value (.bool false)) w := fun lb cb => by
        rw [run_callFunc_extern Tryz.func177 (by kernel_rfl) (by kernel_rfl) (by kernel_rfl) (e := Extern.SlicesOverlaps.overlaps #[23, 23] #[4]) (by kernel_rfl),
          Lib.run_overlaps_apart w 23 4 68 nundF 2 nsiz2F ⟨H, 0, none⟩ ⟨g, (i + 1) * 2, none⟩ 1 1 lb cb hHg TH 68 news.toArray.size cur.toArray.size (by unfold BxI at hH; simp [World.shape?, hH]) (by unfold BxI at hbx'; simp [World.shape?, hbx']) (by rw [List.size_toArray, hcl]; omega) (hH.fz _) (hH.fz _)]
        rfl
      have hthere : ∀ j, j < c * 2 → (w.drew.cell? ⟨g, j, none⟩).isSome = true := fun j hj => by
        show (w.cell? _).isSome = true
        rw [hbx'.cell j _ (Array.getElem?_eq_getElem (by simpa using (show j < cur.length by omega)))]; rfl
      have hfz : ∀ j, w.drew.frozen? ⟨g, j, none⟩ = false := fun j => hbx'.fz j
      obtain ⟨W1, hW1⟩ : ∃ W1, W1 = w.drew.setCells g ((i + 1) * 2) D := ⟨_, rfl⟩
      have hcp1 : ∀ ty dc sc, (Builtin.copy_ #[23, 23] ty #[.slice (some ⟨g, (i + 1) * 2, none⟩) (n + 1 - (i + 1)) dc, .slice (some ⟨g, i * 2, none⟩) (n + 1 - i) sc]).run Tryz.prog w.drew = .ok (goInt ((n - i : Nat) : Int)) W1 := fun ty dc sc => by
        rw [hW1]
        exact run_copy_k w.drew _ _ ty 68 g ((i + 1) * 2) (n + 1 - (i + 1)) dc ⟨g, i * 2, none⟩ (n + 1 - i) sc 2 (n - i) D nundF nsizF (by simp only [Nat.min_def]; split <;> omega) (by omega)
          (fun j v hj => by rw [Addr.add_lit]; exact hDc j v hj) (fun j hj => hthere _ (by omega)) (fun j hj => hfz _) h1D
      have hK1 : Kb (fun b => b = g) w W1 := by rw [hW1]; exact (Kb.refl _ w).drew.trans (kbV_sets _ _ _)
      obtain ⟨W2, hW2⟩ : ∃ W2, W2 = W1.setCells g (i * 2) news := ⟨_, rfl⟩
      have hcp2 : ∀ ty dc, (Builtin.copy_ #[23, 23] ty #[.slice (some ⟨g, i * 2, none⟩) (n + 1 - i) dc, .slice (some ⟨H, 0, none⟩) 1 1]).run Tryz.prog W1 = .ok (goInt 1) W2 := fun ty dc => by
        rw [hW2]
        exact run_copy_k W1 _ _ ty 68 g (i * 2) (n + 1 - i) dc ⟨H, 0, none⟩ 1 1 2 1 news nundF nsizF (by simp only [Nat.min_def]; split <;> omega) (by omega)
          (fun j v hj => by rw [Addr.add_lit, Nat.zero_add]; exact (hK1.cell (p := ⟨H, j, none⟩) hHlt hHg).trans (hNc j v hj))
          (fun j hj => by rw [hW1]; exact (there_sets (b := g) (i := i * 2) (n := 2) (fun j' hj' => ⟨hthere _ (by omega), hfz _⟩) j (by omega)).1)
          (fun j hj => by rw [hW1, World.frozen?_setCells]; exact hfz _) h1
      have hfin : BxI W2 g 68 (T0 ++ news ++ D ++ R1).toArray := by
        rw [hW2, hW1, show (i + 1) * 2 = i * 2 + 2 by omega]
        exact ins_room (w := w.drew) hbx hT hl hR0
      have hK2 : Kb (fun b => b = g) w W2 := by rw [hW2]; exact hK1.trans (kbV_sets _ _ _)
      have HF := Lib.hid hfin
      have HK := Lib.hid hK2
      have hw1 : IntKind.i64.wrap ((i : Int) + 1) = (i : Int) + 1 := by rw [IntKind.wrap_i64]; omega
      have hb2 : ¬ (c = i + 1) := by omega
      have hb4 : (i : Int) + 1 ≤ (n : Int) + 1 := by omega
      have hb5 : (i : Int) ≤ (n : Int) + 1 := by omega
      have hci : ¬ (c = i) := by omega
      clear hfin hK2 hK1 hW2 hW1 hthere hfz hbx hbx' hcell hDc hTc hNc h hH hx ht hd h1D h1x h1 hcur
      go_enter Tryz.func170, Tryz.ntmps170
      go_wp2_with (simp only [hov])
      go_region_law_o (refine step_copy_runV rfl _ _ 23 23 rfl (.slice (some ⟨g, (i + 1) * 2, none⟩) (n + 1 - (i + 1)) (c - (i + 1))) (.slice (some ⟨g, i * 2, none⟩) (n + 1 - i) (c - i)) (by simp [Act.eval, Act.put]) (by simp [Act.eval, Act.put]) (hcp1 _ _ _) ?_)
      go_wp2_with (at_builtin; refine wpList_copy_runV rfl _ _ 23 23 rfl _ _ rfl rfl (hcp2 _ _) ?_)
      go_ret
      exact ⟨⟨_, _, rfl, own_of_box HF.out hBg (by simp only [List.length_append]; omega) (by simp only [List.length_append]; omega) (by omega) hcm, .inl rfl⟩, HK.out.os, HK.out.tape, HK.out.output, HK.out.size, fun b hb hne => HK.out.block b hb (fun e => hne (by rw [e]; rfl))⟩
end Go.Proofs.YtlkebhiaimijiaaGreatDoor

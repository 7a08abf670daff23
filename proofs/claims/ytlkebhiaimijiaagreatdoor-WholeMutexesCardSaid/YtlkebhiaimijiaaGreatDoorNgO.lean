/- Texts laid together: VdB, VdC. -/
import Derived.Test.YtlkebhiaimijiaaGreatDoorBel
import Derived.Test.YtlkebhiaimijiaaGreatDoorNgE
import Derived.Test.YtlkebhiaimijiaaGreatDoorNgL
namespace Go.Proofs.YtlkebhiaimijiaaGreatDoor
set_option linter.unusedSimpArgs false
set_option linter.unusedVariables false
section
open Go Go.RowKit
set_option linter.unusedVariables false

theorem qinfEn : (Tryz.prog.info? 88).map (fun i => (i.zero, i.size, i.bytes)) = some (some (.agg #[.slice none 0 0, .int .i64 0, .int .i64 0]), 3, 40) := by kernel_rfl
theorem qundEn : Tryz.prog.underlying 90 = some (.slice 88) := by kernel_rfl
theorem tas_any (v : Value) (w : World) : (Instr.typeAssert (.iface 88 v) 20 88 true).run Tryz.prog w = .ok (.tuple #[v, .bool true]) w := by kernel_rfl
/-- An entry's value. -/
def En.v (e : En) : Value := .agg #[.slice e.fa e.facts.length e.fc, .int .i64 e.dist, .int .i64 e.ord]

/-- What push leaves. -/
def PuRet (base H : Nat) (A : Option Addr) (c : Nat) (es : List En) (es' : List En) (w w' : World) : Prop :=
 ∃ (A' : Option Addr) (c' : Nat), HpA w' base H A' c' es' ∧ Kb (fun b => b = H ∨ (Value.slice A es.length c).ownBlock = some b) w w' ∧ ((Value.slice A' es'.length c').ownBlock = (Value.slice A es.length c).ownBlock ∨ ∃ g, w.heap.size ≤ g ∧ (Value.slice A' es'.length c').ownBlock = some g)

set_option maxRecDepth 20000 in
set_option maxHeartbeats 8000000 in
theorem epush_any {w : World} {base H : Nat} {A : Option Addr} {c : Nat} {es : List En} (h : HpA w base H A c es) (x : En) (hl : es.length ≤ 100000000) (hb : base ≤ w.heap.size) (hxl : x.facts.length ≤ 1000000) :
  Calls Tryz.prog 212 #[.pointer (some ⟨H, 0, none⟩), .iface 88 (.agg #[.slice x.fa x.facts.length x.fc, .int .i64 x.dist, .int .i64 x.ord])] w fun e w' => e = .returned (.tuple #[]) ∧ PuRet base H A c es (es ++ [x]) w w' := by
 obtain ⟨inf, hi, iz0, iz1, iz2⟩ := info_parts qinfEn
 have hlen := h.own.1
 have HH := Lib.hid h
 have hHlt := h.box.lt
 obtain ⟨n, hn⟩ : ∃ n, n = es.length := ⟨_, rfl⟩
 have HO := Lib.hid h.own
 have HX := Lib.hid h.box
 rw [← hn] at HO HX hl
 have HN := Lib.hid hn
 obtain ⟨W1, hW1⟩ : ∃ W1, W1 = w.alloc (.cells #[.slice x.fa x.facts.length x.fc, .int .i64 x.dist, .int .i64 x.ord] 88) := ⟨_, rfl⟩
 have HB1 := Lib.hid (show Below w.heap.size w W1 by rw [hW1]; exact (Below.refl _ _).alloc (Nat.le_refl _) _)
 have HE1 := Lib.hid (show BxI W1 w.heap.size 88 #[.slice x.fa x.facts.length x.fc, .int .i64 x.dist, .int .i64 x.ord] by rw [hW1]; exact BxI.new _ _ _)
 have HS := Lib.hid (show ∀ w' : World, Below W1.heap.size W1 w' → w'.cell? ⟨H, 0, none⟩ = some (.slice A n c) ∧ (w'.cell? ⟨w.heap.size, 0, none⟩ = some (.slice x.fa x.facts.length x.fc) ∧ w'.cell? ⟨w.heap.size, 1, none⟩ = some (.int .i64 x.dist) ∧ w'.cell? ⟨w.heap.size, 2, none⟩ = some (.int .i64 x.ord)) from fun w' kb => ⟨((HX.out.up HB1.out).up kb).cell 0 _ rfl, (HE1.out.up kb).cell 0 _ rfl, (HE1.out.up kb).cell 1 _ rfl, (HE1.out.up kb).cell 2 _ rfl⟩)
 have HZ1 := Lib.hid (show W1.heap.size = w.heap.size + 1 by rw [hW1]; simp)
 have hz1 : w.heap.size < W1.heap.size := by rw [HZ1.out]; exact Nat.lt_succ_self _
 have hta := tas_any (.agg #[.slice x.fa x.facts.length x.fc, .int .i64 x.dist, .int .i64 x.ord]) w
 clear h hn hlen
 go_enter Tryz.func212, Tryz.ntmps212
 go_wp2_with fail
 rw [← hW1]
 have HW1 := Lib.hid hW1
 clear hW1
 have HO1 := Lib.hid (own_below HO.out HB1.out)
 have HX1 := Lib.hid (HX.out.up HB1.out)
 refine wp_region_G 6 (fun w' => w'.cell? ⟨H, 0, none⟩ = some (.slice A n c) ∧ (w'.cell? ⟨w.heap.size, 0, none⟩ = some (.slice x.fa x.facts.length x.fc) ∧ w'.cell? ⟨w.heap.size, 1, none⟩ = some (.int .i64 x.dist) ∧ w'.cell? ⟨w.heap.size, 2, none⟩ = some (.int .i64 x.ord))) (by kernel_rfl) (HS.out _ (by exact bel)) ?_
 intro hG0
 refine wpS1 0 hG0 ?_; intro hG1; clear hG0
 refine wpS1 1 hG1 ?_; intro hG2; clear hG1
 refine wpS1 2 hG2 ?_; intro hG3; clear hG2
 refine wpS2 3 hG3 ?_; intro hG4; clear hG3
 refine wpS2 4 hG4 ?_; intro hG5; clear hG4
 refine wpAnyG_ready (rs := [5]) (by kernel_rfl) (by simp) (AllG.cons rfl hG5 (fun K hK => ?_) AllG.nil)
 (go_simp)
 refine hK.out _ _ (Or.inr (HS.out _ (by exact bel))) (fun hG6 => wpN ?_); clear hK hG5
 refine wpAnyG_ready (rs := [6]) (by kernel_rfl) (by simp) (AllG.cons rfl hG6 (fun K hK => ?_) AllG.nil)
 (refine step_append_src (by rfl) _ _ 90 (by rfl) base 88 inf (.agg #[.slice none 0 0, .int .i64 0, .int .i64 0]) 3 40 qundEn hi iz0 iz1 iz2 rfl (by decide) (.slice A n c) n (enC es) (by rfl) (by exact HO1.out.drew.alloc _) (some ⟨W1.heap.size, 0, none⟩) 1 1 [.slice x.fa x.facts.length x.fc, .int .i64 x.dist, .int .i64 x.ord] (by rfl) (src_of (heap_alloc_new W1.drew _) rfl (three_v rfl rfl rfl)) (by unfold maxLen; omega) (by omega) (by first | omega | (simp; done) | (simp; omega)) ?_; intro v9 w9 hown9 hgrow9 hat9; obtain ⟨A9, c9, rfl⟩ := own_shape hown9; have HO9 := Lib.hid hown9; have HG9 := Lib.hid hgrow9; have HA9 := Lib.hid hat9; clear hown9 hgrow9 hat9; have HX9 := Lib.hid (show BxI w9 H 90 #[.slice A n c] from BxI.grown (HX1.out.up (show Below W1.heap.size W1 _ by exact bel)) HG9.out (own_ne_bx HO1.out HX1.out (by decide))))
 refine hK.out _ _ (Or.inl rfl) (fun hG7 => wpN ?_); clear hK hG6
 refine wpS1 7 hG7 ?_; intro hG8; clear hG7
 refine wpAnyG_ready (rs := [8]) (by kernel_rfl) (by simp) (AllG.cons rfl hG8 (fun K hK => ?_) AllG.nil)
 (refine step_store1 (by rfl) 90 _ _ (by rfl) H 0 (.slice A9 (n + 1) c9) rfl (by rfl) (by rfl) (there_blk HX9.out (Nat.le_refl 1)) (by kernel_rfl) rfl ?_; intro wy HWY)
 refine hK.out _ _ (Or.inl rfl) (fun hG9 => wpN ?_); clear hK hG8
 refine wpAnyG_done (by kernel_rfl) ?_ _; clear hG9
 go_wp2
 have hne : (Value.slice A9 (n + 1) c9).ownBlock ≠ some H := by
  rcases HA9.out with e | e
  ·rw [e]; exact fun e2 => (own_ne_bx HO1.out HX1.out (by decide)) e2.symm
  ·rw [e]; intro e2; injection e2 with e2; simp at e2; omega
 refine bodyPost_end (results_none rfl _ _ _) rfl ⟨rfl, A9, c9, ⟨?_, ?_⟩, ?_, ?_⟩
 ·rw [HWY.out, List.length_append, ← HN.out]; exact HX9.out.set 0 _
 ·rw [HWY.out, List.length_append, ← HN.out, enC_app, enC_one]; exact own_set' HO9.out hne
 ·rw [HWY.out, ← HN.out]
  refine Kb.set (bad := fun b => b = H ∨ (Value.slice A n c).ownBlock = some b) (p := ⟨H, 0, none⟩) (((Kb.of_below HB1.out).up (show Below W1.heap.size W1 _ by exact bel)).grown HG9.out fun k hk => .inl (.inr hk)) (.inl (.inl rfl)) _
 ·rw [List.length_append, ← HN.out]
  rcases HA9.out with e | e
  ·exact .inl e
  ·refine .inr ⟨_, ?_, e⟩
   simp; omega

set_option maxRecDepth 20000 in
set_option maxHeartbeats 8000000 in
theorem epop_any {w : World} {base H : Nat} {A : Option Addr} {c : Nat} {es : List En} {x : En} (h : HpA w base H A c (es ++ [x])) (hl : es.length ≤ 100000000) :
  Calls Tryz.prog 211 #[.pointer (some ⟨H, 0, none⟩)] w fun e w' => e = .returned (.iface 88 (.agg #[.slice x.fa x.facts.length x.fc, .int .i64 x.dist, .int .i64 x.ord])) ∧ HpA w' base H A c es ∧ Kb (fun b => b = H) w w' := by
 obtain ⟨g, rfl, hg1, hg2⟩ := h.adr (by simp)
 have hcap := h.cap
 obtain ⟨a0, a1, a2⟩ := h.reads (i := es.length) (by simp) (Below.refl _ _)
 rw [show ent (es ++ [x]) es.length = x by unfold ent; simp [List.getD]] at a0 a1 a2
 have x0 := h.box.cell 0 _ rfl
 have xf := h.box.fz 0
 have hH := h.box.lt
 rw [List.length_append, List.length_singleton] at x0 hcap
 have HH := Lib.hid h
 have HXs := Lib.hid (show BxI w H 90 #[.slice (some ⟨g, 0, none⟩) (es.length + 1) c] by have := h.box; rw [List.length_append] at this; exact this)
 have HOC := Lib.hid (show w.ownsRow base 88 3 (.slice (some ⟨g, 0, none⟩) es.length c) es.length (enC es) by
  have := own_cut h.own (m := es.length) (by simp)
  rw [enC_take, List.take_left] at this
  exact this)
 have HNE := Lib.hid (show (Value.slice (some ⟨g, 0, none⟩) es.length c).ownBlock ≠ some H from fun e => h.ne (e.symm.trans rfl))
 obtain ⟨n, hn⟩ : ∃ n, n = es.length := ⟨_, rfl⟩
 rw [← hn] at a0 a1 a2 x0 hcap hl HXs HOC HNE
 have HN := Lib.hid hn
 clear h hn
 go_enter Tryz.func211, Tryz.ntmps211
 go_wp2
 refine bodyPost_ret (v := .iface 88 (.agg #[.slice x.fa x.facts.length x.fc, .int .i64 x.dist, .int .i64 x.ord])) (by simp [results, Tryz.results211, go_sem]) rfl ⟨rfl, ⟨?_, ?_⟩, ?_⟩
 ·rw [← HN.out]; exact (HXs.out.set 0 _).up ((Below.refl _ _).alloc (Nat.le_refl _) _)
 ·rw [← HN.out]; exact own_below (own_set' HOC.out HNE.out) ((Below.refl _ _).alloc (Nat.le_refl _) _)
 ·exact (Kb.set (bad := fun b => b = H) (p := ⟨H, 0, none⟩) (Kb.refl _ _) (.inl rfl) _).alloc _
end

section
open Go Go.RowKit
set_option linter.unusedVariables false

abbrev hpV (H : Nat) : Value := .iface 85 (.pointer (some ⟨H, 0, none⟩))
/-- What up and down leave. -/
structure HpR (base H : Nat) (A : Option Addr) (c : Nat) (es : List En) (w : World) (es' : List En) (w' : World) : Prop where
 len : es'.length = es.length
 hp : HpA w' base H A c es'
 mem : ∀ x, x ∈ es' ↔ x ∈ es
 kb : Kb (fun b => (Value.slice A es.length c).ownBlock = some b) w w'
section
variable {w w1 w2 : World} {base H : Nat} {A : Option Addr} {c : Nat} {es es1 es2 : List En}
theorem HpR.refl (h : HpA w base H A c es) : HpR base H A c es w es w := ⟨rfl, h, fun _ => Iff.rfl, Kb.refl _ _⟩
theorem HpR.up (h : HpR base H A c es w es1 w1) (k : Below w1.heap.size w1 w2) : HpR base H A c es w es1 w2 := ⟨h.len, h.hp.up k, h.mem, h.kb.up k⟩
theorem HpR.sw (h : HpR base H A c es w es1 w1) {i j : Nat} (hi : i < es.length) (hj : j < es.length) (h2 : HpA w2 base H A c (swL es1 i j)) (k : Kb (fun b => (Value.slice A es1.length c).ownBlock = some b) w1 w2) : HpR base H A c es w (swL es1 i j) w2 :=
 ⟨by rw [sw_len]; exact h.len, h2, fun x => (sw_mem (by rw [h.len]; exact hi) (by rw [h.len]; exact hj) x).trans (h.mem x), h.kb.trans (by rw [← h.len]; exact k)⟩
end

set_option maxRecDepth 20000 in
set_option maxHeartbeats 8000000 in
theorem hup_any {w : World} {base H : Nat} {A : Option Addr} {c : Nat} {es : List En} (h : HpA w base H A c es) (j : Nat) (hj : j < es.length) (hu : UpI es es.length j) (hl : es.length ≤ 100000000) :
  Calls Tryz.prog 75 #[hpV H, .int .i64 j] w fun e w' => e = .returned (.tuple #[]) ∧ ∃ es', HpR base H A c es w es' w' ∧ HpN es' es.length := by
 have HH := Lib.hid (HpR.refl h)
 have HU := Lib.hid hu
 obtain ⟨n, hn⟩ : ∃ n, n = es.length := ⟨_, rfl⟩
 have HN := Lib.hid hn
 rw [← hn] at hj hl HU
 rw [← hn]
 clear h hu hn
 go_enter Tryz.func75, Tryz.ntmps75
 go_wp2_with fail
 go_loopw [1] (fun v1 wr => ∃ (j : Nat) (es1 : List En), v1 = .int .i64 j ∧ j < n ∧ Hid (HpR base H A c es w es1 wr) ∧ Hid (UpI es1 n j)) (fun v _ => (RowKit.intOf v).toNat)
 case atStart => exact ⟨j, es, rfl, hj, HH, HU⟩
 case round =>
  clear HH HU
  obtain ⟨j, es1, rfl, hj, HR, HU⟩ := hrel
  obtain ⟨wt, rfl⟩ : ∃ wt : World, wt = wr := ⟨_, rfl⟩
  by_cases h0 : 0 < j
  ·obtain ⟨p, hp⟩ : ∃ p, p = (j - 1) / 2 := ⟨_, rfl⟩
   have hpj : p < j := by omega
   have hpr : ((j : Int) - 1) / 2 = (p : Int) := by omega
   have HP := Lib.hid hp
   have hle : es1.length = n := by rw [HR.out.len]; exact HN.out.symm
   have hil : j < es1.length := by omega
   have hpl : p < es1.length := by omega
   have KL := Lib.hid (eless_any HR.out.hp j p hil hpl (by omega))
   have hm := meth_less (HR.out.hp.box.cell 0 (.slice A es1.length c) rfl)
   have HIL := Lib.hid hil
   have HPL := Lib.hid hpl
   have HLE := Lib.hid hle
   have e0 : ((p : Int) == (j : Int)) = false := by rw [beq_eq_false_iff_ne]; omega
   clear hp hle hil hpl
   go_wp2_with fail
   refine KL.out.mono ?_
   rintro e w2 ⟨rfl, hb2⟩
   have HR2 := Lib.hid (HR.out.up hb2)
   clear hb2 KL hm
   by_cases q : lsE (ent es1 j) (ent es1 p)
   ·rw [decide_eq_true q]
    have KS := Lib.hid (eswap_any HR2.out.hp p j HPL.out HIL.out (by rw [HLE.out]; omega))
    have hm := meth_swap (HR2.out.hp.box.cell 0 (.slice A es1.length c) rfl)
    have HU2 := Lib.hid (show UpI (swL es1 p j) n p by have := up_step HU.out h0 hj (by rw [HLE.out]; exact Nat.le_refl _) (by rw [← HP.out]; exact q); rw [← HP.out] at this; exact this)
    clear q
    go_wp2_with fail
    refine KS.out.mono ?_
    rintro e w3 ⟨rfl, hh3, hk3⟩
    have HR3 := Lib.hid (HR2.out.sw (i := p) (j := j) (by rw [← HN.out]; omega) (by rw [← HN.out]; exact hj) hh3 hk3)
    clear hh3 hk3 KS hm
    go_wp2
    go_roundw
    case rel => exact ⟨p, swL es1 p j, by simp [hpr], by omega, HR3, HU2⟩
    case measure => simp [RowKit.intOf]; omega
   ·rw [decide_eq_false q]
    have HF := Lib.hid (up_end HU.out (by rw [← HP.out]; exact q))
    clear q
    go_wp2
    refine bodyPost_end (results_none rfl _ _ _) rfl ⟨rfl, es1, HR2.out, HF.out⟩
  ·obtain rfl : j = 0 := by omega
   have HF := Lib.hid (up_end0 HU.out)
   go_wp2
   refine bodyPost_end (results_none rfl _ _ _) rfl ⟨rfl, es1, HR.out, HF.out⟩
end

end Go.Proofs.YtlkebhiaimijiaaGreatDoor

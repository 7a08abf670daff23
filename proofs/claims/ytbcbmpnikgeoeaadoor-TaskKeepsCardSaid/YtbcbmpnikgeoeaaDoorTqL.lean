/- The law TaskKeeps: walked. -/
import Derived.Test.YtbcbmpnikgeoeaaDoorTqK
import Derived.LoopTactic
namespace Go.Proofs.YtbcbmpnikgeoeaaDoor
set_option linter.unusedSimpArgs false
set_option linter.unusedVariables false
open Go Go.RowKit
set_option linter.unusedVariables false

theorem src_ic {w : World} {B : Nat} {A : Option Addr} {l : List Int} {c : Nat} (h : IntsAt w B A l) (hA : A = none → c = 0) : SrcAt w A l.length c 1 (ic l) where
  none := fun e => by
    refine ⟨?_, hA e⟩
    rcases Nat.eq_zero_or_pos l.length with h0 | h0
    · exact h0
    · obtain ⟨b, off, e2, _⟩ := h.2 h0
      rw [e] at e2; cases e2
  len := by unfold ic; simp
  cells := fun ad e j u hu => by
    have hj : j < l.length := by
      have := (List.getElem?_eq_some_iff.1 hu).1
      unfold ic at this; simpa using this
    obtain ⟨b, off, e2, _, hc⟩ := h.2 (by omega)
    rw [e] at e2
    cases e2
    rw [ic_get hj] at hu
    cases hu
    have := hc j hj
    simp only [Addr.add]
    split
    · rename_i h0; subst h0; exact this
    · exact this
  one := by
    intro u hu
    unfold ic at hu
    obtain ⟨x, _, rfl⟩ := List.mem_map.1 hu
    rfl

set_option maxRecDepth 20000 in
set_option maxHeartbeats 8000000 in
theorem taskKeeps_any (t : Tsk) (p : Lies) (s : List Int) (A : Option Addr) (c : Nat) (op : Int) (w : World) (ht : TaskAt w w.heap.size t p) (hs : IntsAt w w.heap.size A s) (hA : A = none → c = 0) (hfit : s.length * 8 ≤ 140737488351232) (hE : Env w) :
    Calls Tryd.prog 5 #[TaskV t p, .slice A s.length c, .int .i64 op] w fun e w' => e = .returned (.bool true) ∧ Below w.heap.size w w' := by
  have k0 := fun w1 => awake05_any w1
  have k1 := fun w1 (hb : Below w.heap.size w w1) => lawlarge_any t p w1 (ht.up hb)
  have k2 := fun w1 (hb : Below w.heap.size w w1) => tformat_any t p w1 (ht.up hb) (hE.t.up hb)
  have HT := Lib.hid ht
  have HS := Lib.hid hs
  have HE := Lib.hid hE
  have HA := Lib.hid hA
  have HFM := Lib.hid (fun h => fm_par (t := t) h)
  have HNE := Lib.hid (fun (c : Int) h => erV_ne (c := c) h)
  clear ht hE hs hA
  have k3 := fun w1 (hb : Below w.heap.size w w1) hc => tapplyO_any t p s A c op w1 (HT.out.up hb) (HS.out.up hb) hc
  have k4 := fun w1 (hb : Below w.heap.size w w1) hc hst => trunO_any t p s A c w1 (HT.out.up hb) (HS.out.up hb) hc hst
  obtain ⟨av, ai, ag, ao, cv, ci, cg, co⟩ := p
  unfold TaskV at k1 k2 k3 k4 ⊢
  dsimp only at *
  have K1 := Lib.hid k1
  have K2 := Lib.hid k2
  have K3 := Lib.hid k3
  have K4 := Lib.hid k4
  have K0 := Lib.hid k0
  clear k1 k2 k3 k4 k0
  obtain ⟨inf, hi, iz0, iz1, iz2⟩ := info_parts qinfoI
  go_enter Tryd.func5, Tryd.ntmps5
  go_wp2_with fail
  refine (K1.out _ (by repeat (first | exact Below.refl _ _ | refine below_dN ?_ _ | refine Below.drew ?_ | refine Below.alloc ?_ (by first | omega | (simp; done) | (simp; omega)) _ | refine Below.setCell ?_ (by first | omega | (simp; done) | (simp; omega)) _ | refine below_step (by assumption) (by first | omega | (simp; done) | (simp; omega)) ?_))).mono ?_
  rintro e w1 ⟨⟨B, rfl⟩, hb1⟩
  obtain ⟨hc1, hf1, hz1, hlt1, hle1⟩ := cellsIf hb1 (by (try simp); exact rfl)
  cases B with
  | true =>
    go_wp2_with fail; refine (K0.out _).mono ?_; rintro e w2 ⟨rfl, hb2⟩; obtain ⟨hc2, hf2, hz2, hlt2, hle2⟩ := cellsIf hb2 (by (try simp); exact rfl); (try have : w.heap.size < w2.heap.size := (by omega)); (try have : w.heap.size < w2.heap.size + 1 := (by omega)); (try have : w.heap.size < w2.heap.size + 1 + 1 := (by omega)); (try have : w.heap.size + 1 < w2.heap.size := (by omega)); (try have : w.heap.size + 1 < w2.heap.size + 1 := (by omega)); (try have : w.heap.size + 1 < w2.heap.size + 1 + 1 := (by omega)); (try have : w.heap.size + 1 + 1 < w2.heap.size := (by omega)); (try have : w.heap.size + 1 + 1 < w2.heap.size + 1 := (by omega)); (try have : w.heap.size + 1 + 1 < w2.heap.size + 1 + 1 := (by omega)); (try have : w1.heap.size < w2.heap.size := (by omega)); (try have : w1.heap.size < w2.heap.size + 1 := (by omega)); (try have : w1.heap.size < w2.heap.size + 1 + 1 := (by omega)); (try have : w1.heap.size + 1 < w2.heap.size := (by omega)); (try have : w1.heap.size + 1 < w2.heap.size + 1 := (by omega)); (try have : w1.heap.size + 1 < w2.heap.size + 1 + 1 := (by omega)); (try have : w1.heap.size + 1 + 1 < w2.heap.size := (by omega)); (try have : w1.heap.size + 1 + 1 < w2.heap.size + 1 := (by omega)); (try have : w1.heap.size + 1 + 1 < w2.heap.size + 1 + 1 := (by omega))
    go_wp2
    go_ret
    exact ⟨rfl, by repeat (first | exact Below.refl _ _ | refine below_dN ?_ _ | refine Below.drew ?_ | refine Below.alloc ?_ (by first | omega | (simp; done) | (simp; omega)) _ | refine Below.setCell ?_ (by first | omega | (simp; done) | (simp; omega)) _ | refine below_step (by assumption) (by first | omega | (simp; done) | (simp; omega)) ?_)⟩
  | false =>
    go_wp2_with fail; refine (K0.out _).mono ?_; rintro e w2 ⟨rfl, hb2⟩; obtain ⟨hc2, hf2, hz2, hlt2, hle2⟩ := cellsIf hb2 (by (try simp); exact rfl); (try have : w.heap.size < w2.heap.size := (by omega)); (try have : w.heap.size < w2.heap.size + 1 := (by omega)); (try have : w.heap.size < w2.heap.size + 1 + 1 := (by omega)); (try have : w.heap.size + 1 < w2.heap.size := (by omega)); (try have : w.heap.size + 1 < w2.heap.size + 1 := (by omega)); (try have : w.heap.size + 1 < w2.heap.size + 1 + 1 := (by omega)); (try have : w.heap.size + 1 + 1 < w2.heap.size := (by omega)); (try have : w.heap.size + 1 + 1 < w2.heap.size + 1 := (by omega)); (try have : w.heap.size + 1 + 1 < w2.heap.size + 1 + 1 := (by omega)); (try have : w1.heap.size < w2.heap.size := (by omega)); (try have : w1.heap.size < w2.heap.size + 1 := (by omega)); (try have : w1.heap.size < w2.heap.size + 1 + 1 := (by omega)); (try have : w1.heap.size + 1 < w2.heap.size := (by omega)); (try have : w1.heap.size + 1 < w2.heap.size + 1 := (by omega)); (try have : w1.heap.size + 1 < w2.heap.size + 1 + 1 := (by omega)); (try have : w1.heap.size + 1 + 1 < w2.heap.size := (by omega)); (try have : w1.heap.size + 1 + 1 < w2.heap.size + 1 := (by omega)); (try have : w1.heap.size + 1 + 1 < w2.heap.size + 1 + 1 := (by omega))
    by_cases hf : fmC t = 0
    case neg =>
      have hne := HNE.out _ hf
      have hfs : fmS t = ⟨#[]⟩ := if_neg hf
      have k2 := K2.out
      rw [hne, hfs] at k2
      have K2' := Lib.hid k2
      clear k2 hf hne hfs
      go_wp2_with fail; refine (K2'.out _ (by repeat (first | exact Below.refl _ _ | refine below_dN ?_ _ | refine Below.drew ?_ | refine Below.alloc ?_ (by first | omega | (simp; done) | (simp; omega)) _ | refine Below.setCell ?_ (by first | omega | (simp; done) | (simp; omega)) _ | refine below_step (by assumption) (by first | omega | (simp; done) | (simp; omega)) ?_))).mono ?_; rintro e w3 ⟨rfl, hb3⟩; obtain ⟨hc3, hf3, hz3, hlt3, hle3⟩ := cellsIf hb3 (by (try simp); exact rfl); (try have : w.heap.size < w3.heap.size := (by omega)); (try have : w.heap.size < w3.heap.size + 1 := (by omega)); (try have : w.heap.size < w3.heap.size + 1 + 1 := (by omega)); (try have : w.heap.size + 1 < w3.heap.size := (by omega)); (try have : w.heap.size + 1 < w3.heap.size + 1 := (by omega)); (try have : w.heap.size + 1 < w3.heap.size + 1 + 1 := (by omega)); (try have : w.heap.size + 1 + 1 < w3.heap.size := (by omega)); (try have : w.heap.size + 1 + 1 < w3.heap.size + 1 := (by omega)); (try have : w.heap.size + 1 + 1 < w3.heap.size + 1 + 1 := (by omega)); (try have : w1.heap.size < w3.heap.size := (by omega)); (try have : w1.heap.size < w3.heap.size + 1 := (by omega)); (try have : w1.heap.size < w3.heap.size + 1 + 1 := (by omega)); (try have : w1.heap.size + 1 < w3.heap.size := (by omega)); (try have : w1.heap.size + 1 < w3.heap.size + 1 := (by omega)); (try have : w1.heap.size + 1 < w3.heap.size + 1 + 1 := (by omega)); (try have : w1.heap.size + 1 + 1 < w3.heap.size := (by omega)); (try have : w1.heap.size + 1 + 1 < w3.heap.size + 1 := (by omega)); (try have : w1.heap.size + 1 + 1 < w3.heap.size + 1 + 1 := (by omega)); (try have : w2.heap.size < w3.heap.size := (by omega)); (try have : w2.heap.size < w3.heap.size + 1 := (by omega)); (try have : w2.heap.size < w3.heap.size + 1 + 1 := (by omega)); (try have : w2.heap.size + 1 < w3.heap.size := (by omega)); (try have : w2.heap.size + 1 < w3.heap.size + 1 := (by omega)); (try have : w2.heap.size + 1 < w3.heap.size + 1 + 1 := (by omega)); (try have : w2.heap.size + 1 + 1 < w3.heap.size := (by omega)); (try have : w2.heap.size + 1 + 1 < w3.heap.size + 1 := (by omega)); (try have : w2.heap.size + 1 + 1 < w3.heap.size + 1 + 1 := (by omega))
      go_wp2
      go_ret
      exact ⟨bool_ret (by simp), by repeat (first | exact Below.refl _ _ | refine below_dN ?_ _ | refine Below.drew ?_ | refine Below.alloc ?_ (by first | omega | (simp; done) | (simp; omega)) _ | refine Below.setCell ?_ (by first | omega | (simp; done) | (simp; omega)) _ | refine below_step (by assumption) (by first | omega | (simp; done) | (simp; omega)) ?_)⟩
    case pos =>
      obtain ⟨hc0, hp1, hp2, hsx⟩ := HFM.out hf
      have k2 := K2.out
      rw [hf, hsx, erV_0] at k2
      have K2' := Lib.hid k2
      have HP1 := Lib.hid hp1
      have HP2 := Lib.hid hp2
      have HC0 := Lib.hid hc0
      have HR := Lib.hid (right_of hc0)
      have HBS := Lib.hid (show ((bs (fmL t t.ops.length)).toList == (bs (fmL t t.ops.length)).toList) = true by simp)
      clear k2 hf hc0 hp1 hp2 hsx
      go_wp2_with fail; refine (K2'.out _ (by repeat (first | exact Below.refl _ _ | refine below_dN ?_ _ | refine Below.drew ?_ | refine Below.alloc ?_ (by first | omega | (simp; done) | (simp; omega)) _ | refine Below.setCell ?_ (by first | omega | (simp; done) | (simp; omega)) _ | refine below_step (by assumption) (by first | omega | (simp; done) | (simp; omega)) ?_))).mono ?_; rintro e w3 ⟨rfl, hb3⟩; obtain ⟨hc3, hf3, hz3, hlt3, hle3⟩ := cellsIf hb3 (by (try simp); exact rfl); (try have : w.heap.size < w3.heap.size := (by omega)); (try have : w.heap.size < w3.heap.size + 1 := (by omega)); (try have : w.heap.size < w3.heap.size + 1 + 1 := (by omega)); (try have : w.heap.size + 1 < w3.heap.size := (by omega)); (try have : w.heap.size + 1 < w3.heap.size + 1 := (by omega)); (try have : w.heap.size + 1 < w3.heap.size + 1 + 1 := (by omega)); (try have : w.heap.size + 1 + 1 < w3.heap.size := (by omega)); (try have : w.heap.size + 1 + 1 < w3.heap.size + 1 := (by omega)); (try have : w.heap.size + 1 + 1 < w3.heap.size + 1 + 1 := (by omega)); (try have : w1.heap.size < w3.heap.size := (by omega)); (try have : w1.heap.size < w3.heap.size + 1 := (by omega)); (try have : w1.heap.size < w3.heap.size + 1 + 1 := (by omega)); (try have : w1.heap.size + 1 < w3.heap.size := (by omega)); (try have : w1.heap.size + 1 < w3.heap.size + 1 := (by omega)); (try have : w1.heap.size + 1 < w3.heap.size + 1 + 1 := (by omega)); (try have : w1.heap.size + 1 + 1 < w3.heap.size := (by omega)); (try have : w1.heap.size + 1 + 1 < w3.heap.size + 1 := (by omega)); (try have : w1.heap.size + 1 + 1 < w3.heap.size + 1 + 1 := (by omega)); (try have : w2.heap.size < w3.heap.size := (by omega)); (try have : w2.heap.size < w3.heap.size + 1 := (by omega)); (try have : w2.heap.size < w3.heap.size + 1 + 1 := (by omega)); (try have : w2.heap.size + 1 < w3.heap.size := (by omega)); (try have : w2.heap.size + 1 < w3.heap.size + 1 := (by omega)); (try have : w2.heap.size + 1 < w3.heap.size + 1 + 1 := (by omega)); (try have : w2.heap.size + 1 + 1 < w3.heap.size := (by omega)); (try have : w2.heap.size + 1 + 1 < w3.heap.size + 1 := (by omega)); (try have : w2.heap.size + 1 + 1 < w3.heap.size + 1 + 1 := (by omega))
      have hb03 : Below w.heap.size w w3 := by repeat (first | exact Below.refl _ _ | refine below_dN ?_ _ | refine Below.drew ?_ | refine Below.alloc ?_ (by first | omega | (simp; done) | (simp; omega)) _ | refine Below.setCell ?_ (by first | omega | (simp; done) | (simp; omega)) _ | refine below_step (by assumption) (by first | omega | (simp; done) | (simp; omega)) ?_)
      have hbx3 : Boxed w3 w.heap.size t ⟨av, ai, ag, ao, cv, ci, cg, co⟩ := ((Boxed.up (by constructor <;> simp) hb1).up hb2).up hb3
      have hz03 : w.heap.size < w3.heap.size := by omega
      have HB03 := Lib.hid hb03
      have HBX3 := Lib.hid hbx3
      clear hb1 hb2 hb3 hc1 hc2 hc3 hf1 hf2 hf3 hlt1 hlt2 hlt3 hle1 hle2 hle3 hb03 hbx3
      have hsrc := src_ic ((HS.out.up HB03.out).below (w' := w3.alloc (Obj.cells #[] 3)) ((Below.refl _ _).alloc (Nat.le_refl _) _)) HA.out
      have h63 : 0 + s.length ≤ maxLen := by unfold maxLen; omega
      have hby : (0 + s.length) * 8 ≤ 140737488355328 := by omega
      have HSRC := Lib.hid hsrc
      have H63 := Lib.hid h63
      have HBY := Lib.hid hby
      have HSZ := Lib.hid (show w3.heap.size ≤ (w3.alloc (Obj.cells #[] 3)).heap.size by simp)
      have fold : ∀ (v' : Value) (wo : World), wo.ownsRow w3.heap.size 3 1 v' (0 + s.length) ([] ++ ic s) → (w3.alloc (Obj.cells #[] 3)).grownBy wo (Value.slice (some ⟨w3.heap.size, 0, none⟩) 0 0).ownBlock → (∃ Ao co', v' = .slice Ao s.length co' ∧ IntsAt wo wo.heap.size Ao s) ∧ Below w3.heap.size w3 wo := by
        intro v' wo hown hgrow
        rw [Nat.zero_add, List.nil_append] at hown
        obtain ⟨Ao, co', e, -, h1⟩ := own_got hown HS.out.len
        exact ⟨⟨Ao, co', e, h1⟩, ((Below.refl _ _).alloc (Nat.le_refl _) _).grown hgrow (by simp) (fun k hk => by
          have hk' : some w3.heap.size = some k := hk
          injection hk' with hk'
          omega)⟩
      have FOLD := Lib.hid fold
      clear hsrc h63 hby fold
      go_wp2_with (at_builtin; refine wpList_append_src rfl _ _ 23 rfl w3.heap.size 3 inf (.int .i64 0) 1 8 qundI hi iz0 iz1 iz2 rfl (by decide) _ 0 [] rfl (World.ownsRow_made w3 #[] 0 (by omega) (by simp [maxLen]) rfl) A s.length c (ic s) rfl HSRC.out H63.out HBY.out HSZ.out ?_; intro v' wo hown hgrow hat; obtain ⟨⟨Ao, co', rfl, hO1⟩, hb3o⟩ := FOLD.out v' wo hown hgrow; have HO := Lib.hid hO1; have HB3O := Lib.hid hb3o; have hbxo := HBX3.out.low hb3o hz03; obtain ⟨zo, o0, o1, o2, o3⟩ := id hbxo; dsimp only at o0 o1 o2 o3; have HBXO := Lib.hid hbxo; have HBO := Lib.hid (HB03.out.trans (hb3o.mono HB03.out.size)); clear hown hgrow hat hb3o hO1 hbxo)
      refine (K3.out wo HBO.out HC0.out).mono ?_
      rintro e w4 ⟨⟨v, rfl, hown4, hnil4⟩, hb4⟩
      have hzo4 := hb4.size
      have hbx4 := HBXO.out.low hb4 zo
      by_cases hap : apC t s op = 0
      case neg =>
        obtain rfl := hnil4 hap
        rw [HNE.out _ hap]
        obtain ⟨wz, rfl⟩ : ∃ wz : World, wz = w4 := ⟨_, rfl⟩
        have hbz : Below wo.heap.size wo wz := hb4
        have hzz : wo.heap.size ≤ wz.heap.size := hzo4
        have hbxz := hbx4
        clear hown4 hnil4 hb4 hbx4 hap o0 o1 o2 o3
        obtain ⟨zz, o0, o1, o2, o3⟩ := id hbxz
        dsimp only at o0 o1 o2 o3
        go_wp2
        refine wp_loop_rounds 1 ?_
        rw [rounds_succ]
        go_wp2_with fail
        refine (pparse_any (fmL t t.ops.length) _ (HE.out.up (HBO.out.trans (hbz.mono HBO.out.size)))).mono ?_
        rintro e w6 ⟨q, rfl, hq, hb6, hfr⟩
        rw [HP1.out, HP2.out, erV_0]
        rw [HP2.out] at hq hfr
        obtain ⟨qv, qi, qg, qo, dv, di, dg, dO⟩ := q
        unfold TaskV
        dsimp only at hfr ⊢
        have hz6 := hb6.size
        have hbx6 := hbxz.low hb6 (by omega)
        have hrow : 0 < t.ops.length → ∃ g, qo = some ⟨g, 0, none⟩ ∧ wz.heap.size ≤ g ∧ IRow w6 g (fun j => j * 4 + 1) t.ops.length := by
          intro hn
          obtain ⟨g, h1, h2, h3, h4⟩ := hfr hn
          refine ⟨g, h1, h2, h3, fun j hj => ?_, h4⟩
          obtain ⟨b, off, S, c, T, d, ea, -, -, -, hc, -⟩ := hq.ops.at2 (Below.refl _ _) hj
          rw [show (⟨qv, qi, qg, qo, dv, di, dg, dO⟩ : Lies).ao = qo from rfl, h1] at ea
          injection ea with ea
          injection ea with e1 e2 _
          subst e1 e2
          exact ⟨_, by simpa using hc⟩
        have hn4 : t.ops.length ≤ 4096 := HR.out.no
        have hb06 : Below wo.heap.size wo w6 := hbz.trans (hb6.mono hzz)
        have HROW := Lib.hid hrow
        have HB6 := Lib.hid hb06
        have HX6 := Lib.hid hbx6
        clear hq hfr hrow hbx6 hb06 hbxz hb6
        obtain ⟨wy, hwy⟩ : ∃ wy : World, w6.alloc (Obj.cells #[.slice qv t.vars.length dv, .slice qi t.init.length di, .slice qg t.goal.length dg, .slice qo t.ops.length dO] 27) = wy := ⟨_, rfl⟩
        have hyz : wy.heap.size = w6.heap.size + 1 := by rw [← hwy]; simp
        have hyb : Below w6.heap.size w6 wy := by rw [← hwy]; repeat (first | exact Below.refl _ _ | refine below_dN ?_ _ | refine Below.drew ?_ | refine Below.alloc ?_ (by first | omega | (simp; done) | (simp; omega)) _ | refine Below.setCell ?_ (by first | omega | (simp; done) | (simp; omega)) _ | refine below_step (by assumption) (by first | omega | (simp; done) | (simp; omega)) ?_)
        have hyx : BxI wy w6.heap.size 27 #[.slice qv t.vars.length dv, .slice qi t.init.length di, .slice qg t.goal.length dg, .slice qo t.ops.length dO] := by rw [← hwy]; exact BxI.new _ _ _
        have HYX := Lib.hid hyx
        have HYB := Lib.hid hyb
        have y3 := hyx.cell 3 _ rfl
        clear hyx hyb
        go_wp2_with fail
        (try rw [hwy])
        clear hwy
        go_wp2
        go_loopw [93] (fun i wr => ∃ k : Nat, k ≤ t.ops.length ∧ i = .int .i64 k ∧ Below wo.heap.size wo wr ∧ w6.heap.size < wr.heap.size ∧ BxI wr w6.heap.size 27 #[.slice qv t.vars.length dv, .slice qi t.init.length di, .slice qg t.goal.length dg, .slice qo t.ops.length dO] ∧ Boxed wr w.heap.size t ⟨av, ai, ag, ao, cv, ci, cg, co⟩ ∧ (0 < t.ops.length → ∃ g, qo = some ⟨g, 0, none⟩ ∧ wz.heap.size ≤ g ∧ g < w6.heap.size ∧ IRow wr g (fun j => j * 4 + 1) t.ops.length)) (fun i _ => t.ops.length - (intOf i).toNat)
        case atStart =>
          refine ⟨0, by omega, rfl, HB6.out.trans (HYB.out.mono (by omega)), by omega, HYX.out, HX6.out.low HYB.out (by omega), fun hn => ?_⟩
          obtain ⟨g, h1, h2, h3⟩ := HROW.out hn
          exact ⟨g, h1, h2, h3.lt, by have := h3.lt; omega, fun j hj => by
            obtain ⟨x, hx⟩ := h3.at_ j hj
            exact ⟨x, (HYB.out.cell (p := ⟨g, j * 4 + 1, none⟩) h3.lt).trans hx⟩, fun k => (HYB.out.frozen (p := ⟨g, k, none⟩) h3.lt).trans (h3.fz k)⟩
        case round =>
          clear y3
          obtain ⟨k, hk, rfl, hbr, hzr, hxr, hbxr, hir⟩ := hrel
          obtain ⟨wt, rfl⟩ : ∃ wt : World, wt = wr := ⟨_, rfl⟩
          have y3 := hxr.cell 3 _ rfl
          by_cases hlt : k < t.ops.length
          · obtain ⟨g, rfl, hg1, hg2, hI⟩ := hir (by omega)
            obtain ⟨x, hx⟩ := hI.at_ k hlt
            have hfz := hI.fz (k * 4 + 1)
            have hgl : g < wt.heap.size := hI.lt
            have HI := Lib.hid hI
            have HXR := Lib.hid hxr
            have HBR := Lib.hid hbr
            have HBX := Lib.hid hbxr
            clear hI hxr hbr hbxr hir
            (try dsimp only at hx)
            go_wp2
            go_roundw
            case rel => exact ⟨k + 1, by omega, by go_num, HBR.out.setCell (p := ⟨g, k * 4 + 1, none⟩) (by show wo.heap.size ≤ g; omega) _, by simpa [World.setCell] using hzr, HXR.out.far (p := ⟨g, k * 4 + 1, none⟩) (by show w6.heap.size ≠ g; omega) _, HBX.out.far (q := ⟨g, k * 4 + 1, none⟩) _ (by show w.heap.size ≠ g; omega), fun _ => ⟨g, rfl, hg1, hg2, HI.out.set (f := fun j => j * 4 + 1) hlt _⟩⟩
            case measure => simp [intOf]; omega
          · obtain rfl : k = t.ops.length := by omega
            obtain ⟨_, b0, b1, b2, b3⟩ := id hbxr
            dsimp only at b0 b1 b2 b3
            have hbw : Below w.heap.size w wt := HBO.out.trans (hbr.mono (by omega))
            have k8 := K2'.out wt hbw
            have k9 := fun w1 (hb : Below wt.heap.size wt w1) => bints_any s s A Ao c co' w1 ((HS.out.up hbw).up hb) ((HO.out.up (hbr.mono (Nat.le_refl _))).up hb)
            have HBW := Lib.hid hbw
            have K8 := Lib.hid k8
            have K9 := Lib.hid k9
            have hzw := hbw.size
            clear k8 k9 hbw hbr hxr hbxr hir
            go_wp2_with fail
            refine K8.out.mono ?_
            rintro e w8 ⟨rfl, hb8⟩
            go_wp2_with fail
            refine (K9.out _ (by repeat (first | exact Below.refl _ _ | refine below_dN ?_ _ | refine Below.drew ?_ | refine Below.alloc ?_ (by first | omega | (simp; done) | (simp; omega)) _ | refine Below.setCell ?_ (by first | omega | (simp; done) | (simp; omega)) _ | refine below_step (by assumption) (by first | omega | (simp; done) | (simp; omega)) ?_))).mono ?_
            rintro e w9 ⟨rfl, hb9⟩
            have hbs := HBS.out
            go_wp2
            go_ret
            exact ⟨bool_ret (by simp), HBW.out.trans ((hb8.trans (hb9.mono hb8.size)).mono hzw)⟩
      case pos =>
        have hown := hown4 hap
        rw [hap, erV_0]
        obtain ⟨A4, c4, rfl⟩ := own_shape hown
        have hir4 : 0 < s.length → ∃ g, A4 = some ⟨g, 0, none⟩ ∧ wo.heap.size ≤ g ∧ IRow w4 g (fun k => k) s.length := fun hn => IRow.of_own hown hn
        have hst := (ap_ok hap).2.2.1
        have HST := Lib.hid hst
        have HIR4 := Lib.hid hir4
        have HB4 := Lib.hid hb4
        have HBX4 := Lib.hid hbx4
        clear hown4 hnil4 hap hown hir4 hst hb4 hbx4 o0 o1 o2 o3
        go_wp2
        go_loopw [47] (fun i wr => ∃ k : Nat, k ≤ s.length ∧ i = .int .i64 k ∧ Below wo.heap.size wo wr ∧ Boxed wr w.heap.size t ⟨av, ai, ag, ao, cv, ci, cg, co⟩ ∧ (0 < s.length → ∃ g, A4 = some ⟨g, 0, none⟩ ∧ wo.heap.size ≤ g ∧ IRow wr g (fun k => k) s.length)) (fun i _ => s.length - (intOf i).toNat)
        case atStart => exact ⟨0, by omega, rfl, HB4.out, HBX4.out, HIR4.out⟩
        case round =>
          obtain ⟨k, hk, rfl, hbr, hbxr, hir⟩ := hrel
          obtain ⟨wt, rfl⟩ : ∃ wt : World, wt = wr := ⟨_, rfl⟩
          by_cases hlt : k < s.length
          · obtain ⟨g, rfl, hg1, hI⟩ := hir (by omega)
            obtain ⟨x, hx⟩ := hI.at_ k hlt
            have hfz := hI.fz k
            have hgl : g < wt.heap.size := hI.lt
            have HI := Lib.hid hI
            have HBR := Lib.hid hbr
            have HBX := Lib.hid hbxr
            clear hI hbr hbxr hir
            (try dsimp only at hx)
            go_wp2
            go_roundw
            case rel => exact ⟨k + 1, by omega, by go_num, HBR.out.setCell (p := ⟨g, k, none⟩) hg1 _, HBX.out.far (q := ⟨g, k, none⟩) _ (by show w.heap.size ≠ g; omega), fun _ => ⟨g, rfl, hg1, HI.out.set (f := fun k => k) hlt _⟩⟩
            case measure => simp [intOf]; omega
          · obtain rfl : k = s.length := by omega
            obtain ⟨zr, o0, o1, o2, o3⟩ := id hbxr
            dsimp only at o0 o1 o2 o3
            have hzz := hbr.size
            by_cases hn : 0 < s.length
            · have k5 := K4.out wt (HBO.out.trans (hbr.mono HBO.out.size)) HC0.out HST.out
              have K5 := Lib.hid k5
              have HBR := Lib.hid hbr
              have HBX := Lib.hid hbxr
              clear k5 hbr hbxr hir
              go_wp2_with fail
              refine K5.out.mono ?_
              rintro e w5 ⟨⟨v5, rfl, hown5⟩, hb5⟩
              obtain ⟨A5, c5, rfl⟩ := own_shape hown5
              obtain ⟨g5, rfl, hg5, hI5⟩ := IRow.of_own hown5 hn
              obtain ⟨x5, hx5⟩ := hI5.at_ 0 hn
              have hf5 := hI5.fz 0
              have hgl5 := hI5.lt
              (try dsimp only at hx5)
              have hz5 := hb5.size
              have hbx5 := HBX.out.low hb5 zr
              have hb05 := HBR.out.trans (hb5.mono hzz)
              have HB5 := Lib.hid hb05
              have HBX5 := Lib.hid hbx5
              clear hb5 hown5 hI5 hbx5 hb05 o0 o1 o2 o3
              go_wp2_with fail
              generalize hwz : w5.setCell ⟨g5, 0, none⟩ (.int .i64 (wrap64 (x5 + 1))) = wz
              have hbz : Below wo.heap.size wo wz := by rw [← hwz]; exact HB5.out.setCell (p := ⟨g5, 0, none⟩) (by show wo.heap.size ≤ g5; omega) _
              have hbxz : Boxed wz w.heap.size t ⟨av, ai, ag, ao, cv, ci, cg, co⟩ := by rw [← hwz]; exact HBX5.out.far (q := ⟨g5, 0, none⟩) _ (by show w.heap.size ≠ g5; omega)
              have hzz : wo.heap.size ≤ wz.heap.size := hbz.size
              clear hwz hx5 hf5
              refine (pparse_any (fmL t t.ops.length) _ (HE.out.up (HBO.out.trans (hbz.mono HBO.out.size)))).mono ?_
              rintro e w6 ⟨q, rfl, hq, hb6, hfr⟩
              rw [HP1.out, HP2.out, erV_0]
              rw [HP2.out] at hq hfr
              obtain ⟨qv, qi, qg, qo, dv, di, dg, dO⟩ := q
              unfold TaskV
              dsimp only at hfr ⊢
              have hz6 := hb6.size
              have hbx6 := hbxz.low hb6 (by omega)
              have hrow : 0 < t.ops.length → ∃ g, qo = some ⟨g, 0, none⟩ ∧ wz.heap.size ≤ g ∧ IRow w6 g (fun j => j * 4 + 1) t.ops.length := by
                intro hn
                obtain ⟨g, h1, h2, h3, h4⟩ := hfr hn
                refine ⟨g, h1, h2, h3, fun j hj => ?_, h4⟩
                obtain ⟨b, off, S, c, T, d, ea, -, -, -, hc, -⟩ := hq.ops.at2 (Below.refl _ _) hj
                rw [show (⟨qv, qi, qg, qo, dv, di, dg, dO⟩ : Lies).ao = qo from rfl, h1] at ea
                injection ea with ea
                injection ea with e1 e2 _
                subst e1 e2
                exact ⟨_, by simpa using hc⟩
              have hn4 : t.ops.length ≤ 4096 := HR.out.no
              have hb06 : Below wo.heap.size wo w6 := hbz.trans (hb6.mono hzz)
              have HROW := Lib.hid hrow
              have HB6 := Lib.hid hb06
              have HX6 := Lib.hid hbx6
              clear hq hfr hrow hbx6 hb06 hbxz hb6
              obtain ⟨wy, hwy⟩ : ∃ wy : World, w6.alloc (Obj.cells #[.slice qv t.vars.length dv, .slice qi t.init.length di, .slice qg t.goal.length dg, .slice qo t.ops.length dO] 27) = wy := ⟨_, rfl⟩
              have hyz : wy.heap.size = w6.heap.size + 1 := by rw [← hwy]; simp
              have hyb : Below w6.heap.size w6 wy := by rw [← hwy]; repeat (first | exact Below.refl _ _ | refine below_dN ?_ _ | refine Below.drew ?_ | refine Below.alloc ?_ (by first | omega | (simp; done) | (simp; omega)) _ | refine Below.setCell ?_ (by first | omega | (simp; done) | (simp; omega)) _ | refine below_step (by assumption) (by first | omega | (simp; done) | (simp; omega)) ?_)
              have hyx : BxI wy w6.heap.size 27 #[.slice qv t.vars.length dv, .slice qi t.init.length di, .slice qg t.goal.length dg, .slice qo t.ops.length dO] := by rw [← hwy]; exact BxI.new _ _ _
              have HYX := Lib.hid hyx
              have HYB := Lib.hid hyb
              have y3 := hyx.cell 3 _ rfl
              clear hyx hyb
              go_wp2_with fail
              (try rw [hwy])
              clear hwy
              go_wp2
              go_loopw [93] (fun i wr => ∃ k : Nat, k ≤ t.ops.length ∧ i = .int .i64 k ∧ Below wo.heap.size wo wr ∧ w6.heap.size < wr.heap.size ∧ BxI wr w6.heap.size 27 #[.slice qv t.vars.length dv, .slice qi t.init.length di, .slice qg t.goal.length dg, .slice qo t.ops.length dO] ∧ Boxed wr w.heap.size t ⟨av, ai, ag, ao, cv, ci, cg, co⟩ ∧ (0 < t.ops.length → ∃ g, qo = some ⟨g, 0, none⟩ ∧ wz.heap.size ≤ g ∧ g < w6.heap.size ∧ IRow wr g (fun j => j * 4 + 1) t.ops.length)) (fun i _ => t.ops.length - (intOf i).toNat)
              case atStart =>
                refine ⟨0, by omega, rfl, HB6.out.trans (HYB.out.mono (by omega)), by omega, HYX.out, HX6.out.low HYB.out (by omega), fun hn => ?_⟩
                obtain ⟨g, h1, h2, h3⟩ := HROW.out hn
                exact ⟨g, h1, h2, h3.lt, by have := h3.lt; omega, fun j hj => by
                  obtain ⟨x, hx⟩ := h3.at_ j hj
                  exact ⟨x, (HYB.out.cell (p := ⟨g, j * 4 + 1, none⟩) h3.lt).trans hx⟩, fun k => (HYB.out.frozen (p := ⟨g, k, none⟩) h3.lt).trans (h3.fz k)⟩
              case round =>
                clear y3
                obtain ⟨k, hk, rfl, hbr, hzr, hxr, hbxr, hir⟩ := hrel
                obtain ⟨wt, rfl⟩ : ∃ wt : World, wt = wr := ⟨_, rfl⟩
                have y3 := hxr.cell 3 _ rfl
                by_cases hlt : k < t.ops.length
                · obtain ⟨g, rfl, hg1, hg2, hI⟩ := hir (by omega)
                  obtain ⟨x, hx⟩ := hI.at_ k hlt
                  have hfz := hI.fz (k * 4 + 1)
                  have hgl : g < wt.heap.size := hI.lt
                  have HI := Lib.hid hI
                  have HXR := Lib.hid hxr
                  have HBR := Lib.hid hbr
                  have HBX := Lib.hid hbxr
                  clear hI hxr hbr hbxr hir
                  (try dsimp only at hx)
                  go_wp2
                  go_roundw
                  case rel => exact ⟨k + 1, by omega, by go_num, HBR.out.setCell (p := ⟨g, k * 4 + 1, none⟩) (by show wo.heap.size ≤ g; omega) _, by simpa [World.setCell] using hzr, HXR.out.far (p := ⟨g, k * 4 + 1, none⟩) (by show w6.heap.size ≠ g; omega) _, HBX.out.far (q := ⟨g, k * 4 + 1, none⟩) _ (by show w.heap.size ≠ g; omega), fun _ => ⟨g, rfl, hg1, hg2, HI.out.set (f := fun j => j * 4 + 1) hlt _⟩⟩
                  case measure => simp [intOf]; omega
                · obtain rfl : k = t.ops.length := by omega
                  obtain ⟨_, b0, b1, b2, b3⟩ := id hbxr
                  dsimp only at b0 b1 b2 b3
                  have hbw : Below w.heap.size w wt := HBO.out.trans (hbr.mono (by omega))
                  have k8 := K2'.out wt hbw
                  have k9 := fun w1 (hb : Below wt.heap.size wt w1) => bints_any s s A Ao c co' w1 ((HS.out.up hbw).up hb) ((HO.out.up (hbr.mono (Nat.le_refl _))).up hb)
                  have HBW := Lib.hid hbw
                  have K8 := Lib.hid k8
                  have K9 := Lib.hid k9
                  have hzw := hbw.size
                  clear k8 k9 hbw hbr hxr hbxr hir
                  go_wp2_with fail
                  refine K8.out.mono ?_
                  rintro e w8 ⟨rfl, hb8⟩
                  go_wp2_with fail
                  refine (K9.out _ (by repeat (first | exact Below.refl _ _ | refine below_dN ?_ _ | refine Below.drew ?_ | refine Below.alloc ?_ (by first | omega | (simp; done) | (simp; omega)) _ | refine Below.setCell ?_ (by first | omega | (simp; done) | (simp; omega)) _ | refine below_step (by assumption) (by first | omega | (simp; done) | (simp; omega)) ?_))).mono ?_
                  rintro e w9 ⟨rfl, hb9⟩
                  have hbs := HBS.out
                  go_wp2
                  go_ret
                  exact ⟨bool_ret (by simp), HBW.out.trans ((hb8.trans (hb9.mono hb8.size)).mono hzw)⟩
            · obtain ⟨wz, rfl⟩ : ∃ wz : World, wz = wt := ⟨_, rfl⟩
              have hbz := hbr
              have hbxz := hbxr
              clear hbr hbxr hir
              go_wp2_with fail
              refine (pparse_any (fmL t t.ops.length) _ (HE.out.up (HBO.out.trans (hbz.mono HBO.out.size)))).mono ?_
              rintro e w6 ⟨q, rfl, hq, hb6, hfr⟩
              rw [HP1.out, HP2.out, erV_0]
              rw [HP2.out] at hq hfr
              obtain ⟨qv, qi, qg, qo, dv, di, dg, dO⟩ := q
              unfold TaskV
              dsimp only at hfr ⊢
              have hz6 := hb6.size
              have hbx6 := hbxz.low hb6 (by omega)
              have hrow : 0 < t.ops.length → ∃ g, qo = some ⟨g, 0, none⟩ ∧ wz.heap.size ≤ g ∧ IRow w6 g (fun j => j * 4 + 1) t.ops.length := by
                intro hn
                obtain ⟨g, h1, h2, h3, h4⟩ := hfr hn
                refine ⟨g, h1, h2, h3, fun j hj => ?_, h4⟩
                obtain ⟨b, off, S, c, T, d, ea, -, -, -, hc, -⟩ := hq.ops.at2 (Below.refl _ _) hj
                rw [show (⟨qv, qi, qg, qo, dv, di, dg, dO⟩ : Lies).ao = qo from rfl, h1] at ea
                injection ea with ea
                injection ea with e1 e2 _
                subst e1 e2
                exact ⟨_, by simpa using hc⟩
              have hn4 : t.ops.length ≤ 4096 := HR.out.no
              have hb06 : Below wo.heap.size wo w6 := hbz.trans (hb6.mono hzz)
              have HROW := Lib.hid hrow
              have HB6 := Lib.hid hb06
              have HX6 := Lib.hid hbx6
              clear hq hfr hrow hbx6 hb06 hbxz hb6
              obtain ⟨wy, hwy⟩ : ∃ wy : World, w6.alloc (Obj.cells #[.slice qv t.vars.length dv, .slice qi t.init.length di, .slice qg t.goal.length dg, .slice qo t.ops.length dO] 27) = wy := ⟨_, rfl⟩
              have hyz : wy.heap.size = w6.heap.size + 1 := by rw [← hwy]; simp
              have hyb : Below w6.heap.size w6 wy := by rw [← hwy]; repeat (first | exact Below.refl _ _ | refine below_dN ?_ _ | refine Below.drew ?_ | refine Below.alloc ?_ (by first | omega | (simp; done) | (simp; omega)) _ | refine Below.setCell ?_ (by first | omega | (simp; done) | (simp; omega)) _ | refine below_step (by assumption) (by first | omega | (simp; done) | (simp; omega)) ?_)
              have hyx : BxI wy w6.heap.size 27 #[.slice qv t.vars.length dv, .slice qi t.init.length di, .slice qg t.goal.length dg, .slice qo t.ops.length dO] := by rw [← hwy]; exact BxI.new _ _ _
              have HYX := Lib.hid hyx
              have HYB := Lib.hid hyb
              have y3 := hyx.cell 3 _ rfl
              clear hyx hyb
              go_wp2_with fail
              (try rw [hwy])
              clear hwy
              go_wp2
              go_loopw [93] (fun i wr => ∃ k : Nat, k ≤ t.ops.length ∧ i = .int .i64 k ∧ Below wo.heap.size wo wr ∧ w6.heap.size < wr.heap.size ∧ BxI wr w6.heap.size 27 #[.slice qv t.vars.length dv, .slice qi t.init.length di, .slice qg t.goal.length dg, .slice qo t.ops.length dO] ∧ Boxed wr w.heap.size t ⟨av, ai, ag, ao, cv, ci, cg, co⟩ ∧ (0 < t.ops.length → ∃ g, qo = some ⟨g, 0, none⟩ ∧ wz.heap.size ≤ g ∧ g < w6.heap.size ∧ IRow wr g (fun j => j * 4 + 1) t.ops.length)) (fun i _ => t.ops.length - (intOf i).toNat)
              case atStart =>
                refine ⟨0, by omega, rfl, HB6.out.trans (HYB.out.mono (by omega)), by omega, HYX.out, HX6.out.low HYB.out (by omega), fun hn => ?_⟩
                obtain ⟨g, h1, h2, h3⟩ := HROW.out hn
                exact ⟨g, h1, h2, h3.lt, by have := h3.lt; omega, fun j hj => by
                  obtain ⟨x, hx⟩ := h3.at_ j hj
                  exact ⟨x, (HYB.out.cell (p := ⟨g, j * 4 + 1, none⟩) h3.lt).trans hx⟩, fun k => (HYB.out.frozen (p := ⟨g, k, none⟩) h3.lt).trans (h3.fz k)⟩
              case round =>
                clear y3
                obtain ⟨k, hk, rfl, hbr, hzr, hxr, hbxr, hir⟩ := hrel
                obtain ⟨wt, rfl⟩ : ∃ wt : World, wt = wr := ⟨_, rfl⟩
                have y3 := hxr.cell 3 _ rfl
                by_cases hlt : k < t.ops.length
                · obtain ⟨g, rfl, hg1, hg2, hI⟩ := hir (by omega)
                  obtain ⟨x, hx⟩ := hI.at_ k hlt
                  have hfz := hI.fz (k * 4 + 1)
                  have hgl : g < wt.heap.size := hI.lt
                  have HI := Lib.hid hI
                  have HXR := Lib.hid hxr
                  have HBR := Lib.hid hbr
                  have HBX := Lib.hid hbxr
                  clear hI hxr hbr hbxr hir
                  (try dsimp only at hx)
                  go_wp2
                  go_roundw
                  case rel => exact ⟨k + 1, by omega, by go_num, HBR.out.setCell (p := ⟨g, k * 4 + 1, none⟩) (by show wo.heap.size ≤ g; omega) _, by simpa [World.setCell] using hzr, HXR.out.far (p := ⟨g, k * 4 + 1, none⟩) (by show w6.heap.size ≠ g; omega) _, HBX.out.far (q := ⟨g, k * 4 + 1, none⟩) _ (by show w.heap.size ≠ g; omega), fun _ => ⟨g, rfl, hg1, hg2, HI.out.set (f := fun j => j * 4 + 1) hlt _⟩⟩
                  case measure => simp [intOf]; omega
                · obtain rfl : k = t.ops.length := by omega
                  obtain ⟨_, b0, b1, b2, b3⟩ := id hbxr
                  dsimp only at b0 b1 b2 b3
                  have hbw : Below w.heap.size w wt := HBO.out.trans (hbr.mono (by omega))
                  have k8 := K2'.out wt hbw
                  have k9 := fun w1 (hb : Below wt.heap.size wt w1) => bints_any s s A Ao c co' w1 ((HS.out.up hbw).up hb) ((HO.out.up (hbr.mono (Nat.le_refl _))).up hb)
                  have HBW := Lib.hid hbw
                  have K8 := Lib.hid k8
                  have K9 := Lib.hid k9
                  have hzw := hbw.size
                  clear k8 k9 hbw hbr hxr hbxr hir
                  go_wp2_with fail
                  refine K8.out.mono ?_
                  rintro e w8 ⟨rfl, hb8⟩
                  go_wp2_with fail
                  refine (K9.out _ (by repeat (first | exact Below.refl _ _ | refine below_dN ?_ _ | refine Below.drew ?_ | refine Below.alloc ?_ (by first | omega | (simp; done) | (simp; omega)) _ | refine Below.setCell ?_ (by first | omega | (simp; done) | (simp; omega)) _ | refine below_step (by assumption) (by first | omega | (simp; done) | (simp; omega)) ?_))).mono ?_
                  rintro e w9 ⟨rfl, hb9⟩
                  have hbs := HBS.out
                  go_wp2
                  go_ret
                  exact ⟨bool_ret (by simp), HBW.out.trans ((hb8.trans (hb9.mono hb8.size)).mono hzw)⟩
end Go.Proofs.YtbcbmpnikgeoeaaDoor

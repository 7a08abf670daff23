/- certificate.Parse, walked. -/
import Derived.Test.YtlkebhiaimijiaaGreatDoorVfD
namespace Go.Proofs.YtlkebhiaimijiaaGreatDoor
set_option linter.unusedSimpArgs false
set_option linter.unusedVariables false
open Go Go.RowKit
set_option linter.unusedVariables false

/-- What Parse has made so far. -/
structure PaI (w : World) (R CB Q : Nat) (b : Int) (NA : Option Addr) (nc : Nat) (ns : List Ngd) (wr : World) : Prop where
  bel : Below w.heap.size w wr
  rbx : BxI wr R 41 #[.int .i64 0, .slice none 0 0]
  cbx : BxI wr CB 41 #[.int .i64 b, .slice NA ns.length nc]
  row : wr.ownsRow Q 97 2 (.slice NA ns.length nc) ns.length (ngC ns)
  fac : ∀ n ∈ ns, Fac wr (fun q => q < Q ∨ (Value.slice NA ns.length nc).ownBlock = some q) n.a n.l
section
variable {w wr w1 w2 : World} {R CB Q : Nat} {b : Int} {NA NA' : Option Addr} {nc nc' : Nat} {ns : List Ngd}
theorem PaI.up (h : PaI w R CB Q b NA nc ns wr) (k : Below wr.heap.size wr w1) : PaI w R CB Q b NA nc ns w1 :=
  ⟨h.bel.trans (k.mono h.bel.size), h.rbx.up k, h.cbx.up k, own_below h.row k, fun n hn => (h.fac n hn).up k⟩
theorem PaI.bound (h : PaI w R CB Q b NA nc ns wr) (hw : w.heap.size ≤ CB) (hR : R < CB) (hQ : CB < Q) (b' : Int) : PaI w R CB Q b' NA nc ns (wr.setCell ⟨CB, 0, none⟩ (.int .i64 b')) :=
  ⟨h.bel.setCell hw _, h.rbx.far (by show R ≠ CB; omega) _, h.cbx.set 0 _, own_set' h.row (fun e => by have e' : (Value.slice NA ns.length nc).ownBlock = some CB := e; have := (h.row.lt CB e').1; omega), fun n hn => (h.fac n hn).move (Moves.set (p := ⟨CB, 0, none⟩) _ (.inl hQ))⟩
/-- Another box written. -/
theorem PaI.oth (h : PaI w R CB Q b NA nc ns wr) {X : Nat} {i : Nat} (u : Value) (hw : w.heap.size ≤ X) (h1 : R ≠ X) (h2 : CB ≠ X) (h3 : (Value.slice NA ns.length nc).ownBlock ≠ some X) (hf : ∀ n ∈ ns, Fac wr (fun q => (q < Q ∨ (Value.slice NA ns.length nc).ownBlock = some q) ∨ q = X) n.a n.l) :
    PaI w R CB Q b NA nc ns (wr.setCell ⟨X, i, none⟩ u) ∧ ∀ n ∈ ns, Fac (wr.setCell ⟨X, i, none⟩ u) (fun q => (q < Q ∨ (Value.slice NA ns.length nc).ownBlock = some q) ∨ q = X) n.a n.l :=
  have hm : ∀ n ∈ ns, Fac (wr.setCell ⟨X, i, none⟩ u) (fun q => (q < Q ∨ (Value.slice NA ns.length nc).ownBlock = some q) ∨ q = X) n.a n.l := fun n hn => (hf n hn).move (Moves.set (p := ⟨X, i, none⟩) _ (.inr rfl))
  ⟨⟨h.bel.setCell hw _, h.rbx.far h1 _, h.cbx.far h2 _, own_set' h.row h3, fun n hn => (hm n hn).sub (fun _ _ h => .inl h)⟩, hm⟩
theorem PaI.push {n : Ngd} (h : PaI w R CB Q b NA nc ns wr) (hw : w.heap.size ≤ CB) (hR : R < CB) (hQ : CB < Q) (hQs : Q ≤ wr.heap.size) (u : Below wr.heap.size wr w1)
    (ho : w2.ownsRow Q 97 2 (.slice NA' (ns.length + 1) nc') (ns.length + 1) (ngC ns ++ [.slice n.a n.l.length n.c, .int .i64 n.d])) (hg : w1.grownBy w2 (Value.slice NA ns.length nc).ownBlock)
    (hat : (Value.slice NA' (ns.length + 1) nc').ownBlock = (Value.slice NA ns.length nc).ownBlock ∨ (Value.slice NA' (ns.length + 1) nc').ownBlock = some w1.heap.size)
    (hf : Fac wr (fun q => q < Q ∨ (Value.slice NA ns.length nc).ownBlock = some q) n.a n.l) :
    PaI w R CB Q b NA' nc' (ns ++ [n]) (w2.setCell ⟨CB, 1, none⟩ (.slice NA' (ns.length + 1) nc')) := by
  have h1 := h.up u
  have c2 : BxI w2 CB 41 #[.int .i64 b, .slice NA ns.length nc] := BxI.grown h1.cbx hg (own_ne_bx h1.row h1.cbx (by decide))
  have r2 : BxI w2 R 41 #[.int .i64 0, .slice none 0 0] := BxI.grown h1.rbx hg (own_ne_bx h1.row h1.rbx (by decide))
  have hll : (ns ++ [n]).length = ns.length + 1 := by simp
  have hz := u.size
  have m : Moves wr (w2.setCell ⟨CB, 1, none⟩ (.slice NA' (ns.length + 1) nc')) (fun q => q < Q ∨ (Value.slice NA ns.length nc).ownBlock = some q) (fun q => q < Q ∨ (Value.slice NA' (ns.length + 1) nc').ownBlock = some q) := by
    refine (Moves.up u).trans ((Moves.grown (bad' := fun q => q < Q ∨ (Value.slice NA' (ns.length + 1) nc').ownBlock = some q) hg (fun q hq => .inr hq) (fun q hq hb => ?_)).trans (Moves.set (p := ⟨CB, 1, none⟩) _ (.inl hQ)))
    rcases hb with hb | hb
    · exact .inl hb
    · rcases hat with e | e
      · exact .inr (by rw [← e]; exact hb)
      · rw [e] at hb; injection hb with hb; omega
  refine ⟨(h1.bel.grown hg h1.bel.size (fun q hq => Nat.le_trans (by omega) (h1.row.lt q hq).1)).setCell hw _, r2.far (by show R ≠ CB; omega) _, ?_, ?_, fun y hy => ?_⟩
  · rw [hll]; exact c2.set 1 _
  · rw [hll, ngC_app, ngC_one]
    refine own_set' ho fun e => ?_
    have e' : (Value.slice NA' (ns.length + 1) nc').ownBlock = some CB := e
    have := (ho.lt CB e').1
    omega
  · rw [hll]
    rcases List.mem_append.1 hy with hy | hy
    · exact (h.fac y hy).move m
    · simp at hy; subst hy; exact hf.move m
theorem PaI.nls (h : PaI w R CB Q b NA nc ns wr) (hl : ns.length ≤ 1000000) : Nls wr (fun _ => False) NA ns := nls_own h.row hl (fun _ _ h => h) (fun n hn => (h.fac n hn).sub (fun _ _ h => h.elim))
theorem PaI.ret (h : PaI w R CB Q b NA nc ns wr) (hR : R < Q) (hl : ns.length ≤ 1000000) (u v : Value) : Nls ((wr.setCell ⟨R, 0, none⟩ u).setCell ⟨R, 1, none⟩ v) (fun _ => False) NA ns := by
  have hne : (Value.slice NA ns.length nc).ownBlock ≠ some R := fun e => by have := (h.row.lt R e).1; omega
  refine nls_own (own_set' (own_set' h.row hne) hne) hl (fun _ _ h => h) fun n hn => ?_
  have hf := (h.fac n hn).sub (bad' := fun b => b = R) (fun b _ hb => .inl (by rw [hb]; exact hR))
  have m1 : Moves wr (wr.setCell ⟨R, 0, none⟩ u) (fun b => b = R) (fun b => b = R) := Moves.set (bad := fun b => b = R) (p := ⟨R, 0, none⟩) u rfl
  have m2 : Moves (wr.setCell ⟨R, 0, none⟩ u) ((wr.setCell ⟨R, 0, none⟩ u).setCell ⟨R, 1, none⟩ v) (fun b => b = R) (fun b => b = R) := Moves.set (bad := fun b => b = R) (p := ⟨R, 1, none⟩) v rfl
  exact ((hf.move m1).move m2).sub (fun _ _ h => h.elim)
end
/-- What Parse returns. -/
def PsRet (e : Ending) (w' : World) : Prop :=
  (∃ (b : Int) (NA : Option Addr) (nc : Nat) (ns : List Ngd) (ln : Int), e = .returned (.tuple #[.agg #[.int .i64 b, .slice NA ns.length nc], .int .i64 ln, .nilIface]) ∧ Nls w' (fun _ => False) NA ns ∧ chkN b ns = 0) ∨
  ∃ (ln ec : Int), e = .returned (.tuple #[.agg #[.int .i64 0, .slice none 0 0], .int .i64 ln, .iface 49 (.int .i64 ec)])
theorem ps_bad (ln ec : Int) (w' : World) : PsRet (.returned (.tuple #[.agg #[.int .i64 0, .slice none 0 0], .int .i64 ln, .iface 49 (.int .i64 ec)])) w' := .inr ⟨ln, ec, rfl⟩

set_option maxRecDepth 20000 in
set_option maxHeartbeats 32000000 in
theorem cparse_any (s : ByteArray) (w : World) (hs : s.size ≤ 900000) (hE : EnvM w) : Calls Tryz.prog 21 #[.string s] w fun e w' => PsRet e w' ∧ Below w.heap.size w w' := by
  obtain ⟨inf, hinf, iz0, iz1, iz2⟩ := info_parts sinfN
  obtain ⟨W0, hW0⟩ : ∃ W0, W0 = w.alloc (.cells #[.int .i64 0, .slice none 0 0] 41) := ⟨_, rfl⟩
  have HB0 := Lib.hid (show Below w.heap.size w W0 by rw [hW0]; exact (Below.refl _ _).alloc (Nat.le_refl _) _)
  have HR0 := Lib.hid (show BxI W0 w.heap.size 41 #[.int .i64 0, .slice none 0 0] by rw [hW0]; exact BxI.new _ _ _)
  have HE := Lib.hid hE
  clear hE
  by_cases hbig : 65536 < s.size
  · have r0 := HR0.out.cell 0 (.int .i64 0) rfl
    have r1 := HR0.out.cell 1 (.slice none 0 0) rfl
    clear hW0
    go_enter Tryz.func21, Tryz.ntmps21
    go_wp2
    refine bodyPost_ret (v := .tuple #[.agg #[.int .i64 0, .slice none 0 0], .int .i64 0, .iface 49 (.int .i64 5)]) (by simp [results, Tryz.results21, go_sem]) rfl ⟨ps_bad _ _ _, (Below.refl _ _).alloc (Nat.le_refl _) _⟩
  · have hs6 : s.size ≤ 65536 := by omega
    obtain ⟨CB, hCB⟩ : ∃ CB, CB = w.heap.size + 1 := ⟨_, rfl⟩
    obtain ⟨W1, hW1⟩ : ∃ W1, W1 = W0.alloc (.cells #[.int .i64 0, .slice none 0 0] 41) := ⟨_, rfl⟩
    have HB1 := Lib.hid (show Below W0.heap.size W0 W1 by rw [hW1]; exact (Below.refl _ _).alloc (Nat.le_refl _) _)
    have HC1 := Lib.hid (show BxI W1 CB 41 #[.int .i64 0, .slice none 0 0] by rw [hW1, hCB, show w.heap.size + 1 = W0.heap.size by rw [hW0]; simp]; exact BxI.new _ _ _)
    have HR1 := Lib.hid (HR0.out.up HB1.out)
    have HBw1 := Lib.hid (show Below w.heap.size w W1 from HB0.out.trans (HB1.out.mono HB0.out.size))
    have KS := Lib.hid (splitg_any s 10 W1 (by omega) (HE.out.up HBw1.out))
    have hRC : w.heap.size < CB := by omega
    clear hbig
    go_enter Tryz.func21, Tryz.ntmps21
    go_wp2_with fail
    rw [← hW0, ← hW1, ← hCB]
    have HCB := Lib.hid hCB
    have HW0 := Lib.hid hW0
    have HW1 := Lib.hid hW1
    clear hW0 hW1 hCB
    refine KS.out.mono ?_
    rintro e w2 ⟨⟨L, rfl, hL0, hL1, hLx, hLb⟩, hb2⟩
    obtain ⟨SB, hSB⟩ : ∃ SB, SB = W1.heap.size := ⟨_, rfl⟩
    obtain ⟨Q, hQ⟩ : ∃ Q, Q = w2.heap.size := ⟨_, rfl⟩
    have hCS : CB < SB := by rw [hSB]; exact HC1.out.lt
    rw [← hSB] at hLb ⊢
    have HSB := Lib.hid hLb
    have hSQ : SB < Q := by rw [hQ]; exact hLb.lt
    have HLX := Lib.hid hLx
    have HI2 := Lib.hid (show PaI w w.heap.size CB Q 0 none 0 [] w2 from ⟨HBw1.out.trans (hb2.mono HBw1.out.size), HR1.out.up hb2, HC1.out.up hb2, World.ownsRow_nil _ _ _ _, fun n hn => by cases hn⟩)
    have HQ := Lib.hid hQ
    have hQz : Q ≤ w2.heap.size := by omega
    have hL9 : L.length ≤ 65537 := by omega
    clear hb2 hLx hLb KS hSB hQ hL0 hL1
    go_wp2_with fail
    go_loopw [22] (fun v22 wr => ∃ (i : Nat) (b : Int) (NA : Option Addr) (nc : Nat) (ns : List Ngd), v22 = .int .i64 i ∧ i ≤ L.length ∧ ns.length ≤ i ∧ Q ≤ wr.heap.size ∧ Hid (PaI w w.heap.size CB Q b NA nc ns wr) ∧ Hid (BxI wr SB 9 (L.map Value.string).toArray)) (fun v22 _ => L.length - (intOf v22).toNat)
    case atStart => exact ⟨0, 0, none, 0, [], rfl, by omega, by simp, hQz, HI2, HSB⟩
    case round =>
      clear HI2 HSB hQz
      obtain ⟨i, b, NA, nc, ns, rfl, hi, hni, hQt, HI, HS⟩ := hrel
      obtain ⟨wt, rfl⟩ : ∃ wt : World, wt = wr := ⟨_, rfl⟩
      have hwt := HI.out.bel.size
      by_cases hlt : i < L.length
      · obtain ⟨x, hx⟩ : ∃ x, x = L[i] := ⟨_, rfl⟩
        have d1 := HS.out.cell i (.string x) (by rw [hx]; simp [hlt])
        have hxs : x.size ≤ 900000 := by have := HLX.out x (by rw [hx]; exact List.getElem_mem hlt); omega
        have hSl := HS.out.lt
        have HEt := Lib.hid (HE.out.up HI.out.bel)
        clear hx
        rcases i with _ | i0
        · have KH := Lib.hid (head_any x wt (by omega))
          have c00 := HI.out.cbx.cell 0 (.int .i64 b) rfl
          by_cases hen : 1 < L.length
          · have e0 : decide ((1 : Int) < L.length) = true := decide_eq_true (by omega)
            go_wp2_with fail
            refine KH.out.mono ?_
            rintro e w3 ⟨⟨b3, k3, rfl⟩, hb3⟩
            have HI3 := Lib.hid (HI.out.up hb3)
            have HS3 := Lib.hid (HS.out.up hb3)
            have hz3 := hb3.size
            have c0 := HI3.out.cbx.cell 0 (.int .i64 b) rfl
            have cf := HI3.out.cbx.fz 0
            have hCl := HI3.out.cbx.lt
            have HI4 := Lib.hid (HI3.out.bound (by omega) hRC (by omega) b3)
            have HS4 := Lib.hid (show BxI (w3.setCell ⟨CB, 0, none⟩ (.int .i64 b3)) SB 9 (L.map Value.string).toArray from HS3.out.far (by show SB ≠ CB; omega) _)
            clear hb3 KH d1 hSl c00
            cases k3
            · have r0 := HI4.out.rbx.cell 0 (.int .i64 0) rfl
              have r1 := HI4.out.rbx.cell 1 (.slice none 0 0) rfl
              have rr0 := HI3.out.rbx.cell 0 (.int .i64 0) rfl
              have rr1 := HI3.out.rbx.cell 1 (.slice none 0 0) rfl
              have rf0 := HI3.out.rbx.fz 0
              have rf1 := HI3.out.rbx.fz 1
              have hRl := HI3.out.rbx.lt
              have HZ := Lib.hid (ret_cells (u := .int .i64 0) (v := .slice none 0 0) HI4.out.rbx)
              have HBZ := Lib.hid (show Below w.heap.size w (((w3.setCell ⟨CB, 0, none⟩ (.int .i64 b3)).setCell ⟨w.heap.size, 0, none⟩ (.int .i64 0)).setCell ⟨w.heap.size, 1, none⟩ (.slice none 0 0)) from ret_below HI4.out.bel (Nat.le_refl _))
              go_wp2
              have z0 := HZ.out.1
              have z1 := HZ.out.2
              refine bodyPost_ret (v := .tuple #[.agg #[.int .i64 0, .slice none 0 0], .int .i64 1, .iface 49 (.int .i64 2)]) (by simp [results, Tryz.results21, go_sem, z0, z1]) rfl ⟨ps_bad _ _ _, HBZ.out⟩
            · go_wp2
              go_roundw
              case rel => exact ⟨1, b3, NA, nc, ns, by go_num, by omega, by omega, by simp; omega, HI4, HS4⟩
              case measure => simp [intOf]; omega
          · have e0 : decide ((1 : Int) < L.length) = false := decide_eq_false (by omega)
            cases hxe : (x.toList == [])
            · go_wp2_with fail
              refine KH.out.mono ?_
              rintro e w3 ⟨⟨b3, k3, rfl⟩, hb3⟩
              have HI3 := Lib.hid (HI.out.up hb3)
              have HS3 := Lib.hid (HS.out.up hb3)
              have hz3 := hb3.size
              have c0 := HI3.out.cbx.cell 0 (.int .i64 b) rfl
              have cf := HI3.out.cbx.fz 0
              have hCl := HI3.out.cbx.lt
              have HI4 := Lib.hid (HI3.out.bound (by omega) hRC (by omega) b3)
              have HS4 := Lib.hid (show BxI (w3.setCell ⟨CB, 0, none⟩ (.int .i64 b3)) SB 9 (L.map Value.string).toArray from HS3.out.far (by show SB ≠ CB; omega) _)
              clear hb3 KH d1 hSl c00
              cases k3
              · have r0 := HI4.out.rbx.cell 0 (.int .i64 0) rfl
                have r1 := HI4.out.rbx.cell 1 (.slice none 0 0) rfl
                have rr0 := HI3.out.rbx.cell 0 (.int .i64 0) rfl
                have rr1 := HI3.out.rbx.cell 1 (.slice none 0 0) rfl
                have rf0 := HI3.out.rbx.fz 0
                have rf1 := HI3.out.rbx.fz 1
                have hRl := HI3.out.rbx.lt
                have HZ := Lib.hid (ret_cells (u := .int .i64 0) (v := .slice none 0 0) HI4.out.rbx)
                have HBZ := Lib.hid (show Below w.heap.size w (((w3.setCell ⟨CB, 0, none⟩ (.int .i64 b3)).setCell ⟨w.heap.size, 0, none⟩ (.int .i64 0)).setCell ⟨w.heap.size, 1, none⟩ (.slice none 0 0)) from ret_below HI4.out.bel (Nat.le_refl _))
                go_wp2
                have z0 := HZ.out.1
                have z1 := HZ.out.2
                refine bodyPost_ret (v := .tuple #[.agg #[.int .i64 0, .slice none 0 0], .int .i64 1, .iface 49 (.int .i64 2)]) (by simp [results, Tryz.results21, go_sem, z0, z1]) rfl ⟨ps_bad _ _ _, HBZ.out⟩
              · have r0 := HI4.out.rbx.cell 0 (.int .i64 0) rfl
                have r1 := HI4.out.rbx.cell 1 (.slice none 0 0) rfl
                have rr0 := HI3.out.rbx.cell 0 (.int .i64 0) rfl
                have rr1 := HI3.out.rbx.cell 1 (.slice none 0 0) rfl
                have rf0 := HI3.out.rbx.fz 0
                have rf1 := HI3.out.rbx.fz 1
                have hRl := HI3.out.rbx.lt
                have HZ := Lib.hid (ret_cells (u := .int .i64 0) (v := .slice none 0 0) HI4.out.rbx)
                have HBZ := Lib.hid (show Below w.heap.size w (((w3.setCell ⟨CB, 0, none⟩ (.int .i64 b3)).setCell ⟨w.heap.size, 0, none⟩ (.int .i64 0)).setCell ⟨w.heap.size, 1, none⟩ (.slice none 0 0)) from ret_below HI4.out.bel (Nat.le_refl _))
                go_wp2
                have z0 := HZ.out.1
                have z1 := HZ.out.2
                refine bodyPost_ret (v := .tuple #[.agg #[.int .i64 0, .slice none 0 0], .int .i64 1, .iface 49 (.int .i64 2)]) (by simp [results, Tryz.results21, go_sem, z0, z1]) rfl ⟨ps_bad _ _ _, HBZ.out⟩
            · go_wp2_with fail
              refine KH.out.mono ?_
              rintro e w3 ⟨⟨b3, k3, rfl⟩, hb3⟩
              have HI3 := Lib.hid (HI.out.up hb3)
              have HS3 := Lib.hid (HS.out.up hb3)
              have hz3 := hb3.size
              have c0 := HI3.out.cbx.cell 0 (.int .i64 b) rfl
              have cf := HI3.out.cbx.fz 0
              have hCl := HI3.out.cbx.lt
              have HI4 := Lib.hid (HI3.out.bound (by omega) hRC (by omega) b3)
              have HS4 := Lib.hid (show BxI (w3.setCell ⟨CB, 0, none⟩ (.int .i64 b3)) SB 9 (L.map Value.string).toArray from HS3.out.far (by show SB ≠ CB; omega) _)
              clear hb3 KH d1 hSl c00
              cases k3
              · have r0 := HI4.out.rbx.cell 0 (.int .i64 0) rfl
                have r1 := HI4.out.rbx.cell 1 (.slice none 0 0) rfl
                have rr0 := HI3.out.rbx.cell 0 (.int .i64 0) rfl
                have rr1 := HI3.out.rbx.cell 1 (.slice none 0 0) rfl
                have rf0 := HI3.out.rbx.fz 0
                have rf1 := HI3.out.rbx.fz 1
                have hRl := HI3.out.rbx.lt
                have HZ := Lib.hid (ret_cells (u := .int .i64 0) (v := .slice none 0 0) HI4.out.rbx)
                have HBZ := Lib.hid (show Below w.heap.size w (((w3.setCell ⟨CB, 0, none⟩ (.int .i64 b3)).setCell ⟨w.heap.size, 0, none⟩ (.int .i64 0)).setCell ⟨w.heap.size, 1, none⟩ (.slice none 0 0)) from ret_below HI4.out.bel (Nat.le_refl _))
                go_wp2
                have z0 := HZ.out.1
                have z1 := HZ.out.2
                refine bodyPost_ret (v := .tuple #[.agg #[.int .i64 0, .slice none 0 0], .int .i64 1, .iface 49 (.int .i64 2)]) (by simp [results, Tryz.results21, go_sem, z0, z1]) rfl ⟨ps_bad _ _ _, HBZ.out⟩
              · have r0 := HI4.out.rbx.cell 0 (.int .i64 0) rfl
                have r1 := HI4.out.rbx.cell 1 (.slice none 0 0) rfl
                have rr0 := HI3.out.rbx.cell 0 (.int .i64 0) rfl
                have rr1 := HI3.out.rbx.cell 1 (.slice none 0 0) rfl
                have rf0 := HI3.out.rbx.fz 0
                have rf1 := HI3.out.rbx.fz 1
                have hRl := HI3.out.rbx.lt
                have HZ := Lib.hid (ret_cells (u := .int .i64 0) (v := .slice none 0 0) HI4.out.rbx)
                have HBZ := Lib.hid (show Below w.heap.size w (((w3.setCell ⟨CB, 0, none⟩ (.int .i64 b3)).setCell ⟨w.heap.size, 0, none⟩ (.int .i64 0)).setCell ⟨w.heap.size, 1, none⟩ (.slice none 0 0)) from ret_below HI4.out.bel (Nat.le_refl _))
                go_wp2
                have z0 := HZ.out.1
                have z1 := HZ.out.2
                refine bodyPost_ret (v := .tuple #[.agg #[.int .i64 0, .slice none 0 0], .int .i64 1, .iface 49 (.int .i64 2)]) (by simp [results, Tryz.results21, go_sem, z0, z1]) rfl ⟨ps_bad _ _ _, HBZ.out⟩
        · have hi1 : ((i0 + 1 : Nat) : Int) ≠ 0 := by omega
          have e9 : (((i0 + 1 : Nat) : Int) == 0) = false := by rw [beq_eq_false_iff_ne]; omega
          by_cases hen : i0 + 1 + 1 < L.length
          · have e0 : decide ((i0 : Int) + 1 < L.length - 1) = true := decide_eq_true (by omega)
            obtain ⟨NB, hNB⟩ : ∃ NB, NB = wt.heap.size := ⟨_, rfl⟩
            obtain ⟨W5, hW5⟩ : ∃ W5, W5 = wt.alloc (.cells #[.slice none 0 0, .int .i64 0] 97) := ⟨_, rfl⟩
            have HB5 := Lib.hid (show Below wt.heap.size wt W5 by rw [hW5]; exact (Below.refl _ _).alloc (Nat.le_refl _) _)
            have HN5 := Lib.hid (show BxI W5 NB 97 #[.slice none 0 0, .int .i64 0] by rw [hW5, hNB]; exact BxI.new _ _ _)
            have KN := Lib.hid (nogood_any x W5 (by omega) (HEt.out.up HB5.out))
            go_wp2_with fail
            rw [← hW5, ← hNB]
            have HW5 := Lib.hid hW5
            have HNB := Lib.hid hNB
            clear hW5 hNB d1 hSl
            refine KN.out.mono ?_
            rintro e w6 ⟨⟨n, k6, rfl, hnl, hnf⟩, hb6⟩
            have HI6 := Lib.hid ((HI.out.up HB5.out).up hb6)
            have HS6 := Lib.hid ((HS.out.up HB5.out).up hb6)
            have HN6 := Lib.hid (HN5.out.up hb6)
            have HNF := Lib.hid hnf
            have hz5 := HB5.out.size
            have hz6 := hb6.size
            have hQN : Q ≤ NB := by rw [HNB.out]; exact hQt
            have hNW : NB < W5.heap.size := HN5.out.lt
            have hne6 : (Value.slice NA ns.length nc).ownBlock ≠ some NB := fun e => by have := (HI.out.row.lt NB e).2; have := HNB.out; omega
            have HNE6 := Lib.hid hne6
            have hff6 : ∀ y ∈ ns, Fac w6 (fun q => (q < Q ∨ (Value.slice NA ns.length nc).ownBlock = some q) ∨ q = NB) y.a y.l := fun y hy =>
              (((HI.out.fac y hy).move (bad' := fun q => (q < Q ∨ (Value.slice NA ns.length nc).ownBlock = some q) ∨ q = NB) ⟨Nat.le_refl _, fun _ _ _ => rfl, fun q hq h => h.elim id (fun h => by have := HNB.out; omega)⟩).up HB5.out).up hb6
            have hp1 := HI6.out.oth (X := NB) (i := 0) (.slice n.a n.l.length n.c) (by omega) (by omega) (by omega) hne6 hff6
            have hp2 := hp1.1.oth (X := NB) (i := 1) (.int .i64 n.d) (by omega) (by omega) (by omega) hne6 hp1.2
            obtain ⟨w7, hw7⟩ : ∃ w7, w7 = (w6.setCell ⟨NB, 0, none⟩ (.slice n.a n.l.length n.c)).setCell ⟨NB, 1, none⟩ (.int .i64 n.d) := ⟨_, rfl⟩
            have HI7 := Lib.hid (show PaI w w.heap.size CB Q b NA nc ns w7 by rw [hw7]; exact hp2.1)
            have HS7 := Lib.hid (show BxI w7 SB 9 (L.map Value.string).toArray by rw [hw7]; exact (HS6.out.far (by show SB ≠ NB; omega) _).far (by show SB ≠ NB; omega) _)
            have HF7 := Lib.hid (show Fac w7 (fun q => q < Q ∨ (Value.slice NA ns.length nc).ownBlock = some q) n.a n.l by
              rw [hw7]
              have h0 : Fac w6 (fun q => (q < Q ∨ (Value.slice NA ns.length nc).ownBlock = some q) ∨ q = NB) n.a n.l := HNF.out.sub fun q _ hq => by
                rcases hq with (hq | hq) | hq
                · omega
                · have := (HI.out.row.lt q hq).2; omega
                · omega
              exact ((h0.move (Moves.set (p := ⟨NB, 0, none⟩) _ (.inr rfl))).move (Moves.set (bad := fun q => (q < Q ∨ (Value.slice NA ns.length nc).ownBlock = some q) ∨ q = NB) (p := ⟨NB, 1, none⟩) _ (.inr rfl))).sub (fun _ _ h => .inl h))
            have hz7 : w7.heap.size = w6.heap.size := by rw [hw7]; simp
            have m0 := HN6.out.cell 0 (.slice none 0 0) rfl
            have m1 := HN6.out.cell 1 (.int .i64 0) rfl
            have mf0 := HN6.out.fz 0
            have mf1 := HN6.out.fz 1
            have hNl := HN6.out.lt
            have c1 := HI6.out.cbx.cell 1 (.slice NA ns.length nc) rfl
            have hCl := HI6.out.cbx.lt
            have hCN : CB < NB := by omega
            have hnn : ns.length ≤ 70000 := by omega
            clear hb6 KN hnf hne6 hff6 hp1 hp2
            cases k6
            · go_wp2_with (at_builtin; rw [← hw7]; refine wpList_append_src (by rfl) _ _ 39 (by rfl) Q 97 inf (.agg #[.slice none 0 0, .int .i64 0]) 2 32 sundN hinf iz0 iz1 iz2 rfl (by decide) (.slice NA ns.length nc) ns.length (ngC ns) (by rfl) (by exact HI7.out.row.alloc _) (some ⟨w6.heap.size, 0, none⟩) 1 1 [.slice n.a n.l.length n.c, .int .i64 n.d] (by rfl) (src_of (by rw [← hz7]; exact heap_alloc_new w7 _) rfl (by intro u hu; simp at hu; rcases hu with rfl | rfl <;> rfl)) (by unfold maxLen; omega) (by omega) (by first | omega | (simp; done) | (simp; omega)) ?_; intro v9 w9 hown9 hgrow9 hat9; obtain ⟨A9, c9, rfl⟩ := own_shape hown9; have HO9 := Lib.hid hown9; have HG9 := Lib.hid hgrow9; have HA9 := Lib.hid hat9; have HU9 := Lib.hid (show Below w7.heap.size w7 (w7.alloc (.cells #[.slice n.a n.l.length n.c, .int .i64 n.d] 97)) from (Below.refl _ _).alloc (Nat.le_refl _) _); have HC9 := Lib.hid (show BxI w9 CB 41 #[.int .i64 b, .slice NA ns.length nc] from BxI.grown (HI7.out.cbx.up HU9.out) HG9.out (own_ne_bx (own_below HI7.out.row HU9.out) (HI7.out.cbx.up HU9.out) (by decide))); have HR9 := Lib.hid (show BxI w9 w.heap.size 41 #[.int .i64 0, .slice none 0 0] from BxI.grown (HI7.out.rbx.up HU9.out) HG9.out (own_ne_bx (own_below HI7.out.row HU9.out) (HI7.out.rbx.up HU9.out) (by decide))); have HI8 := Lib.hid (HI7.out.push (by omega) hRC (by omega) (by omega) HU9.out HO9.out HG9.out HA9.out HF7.out); have k0 := HC9.out.cell 1 (.slice NA ns.length nc) rfl; have kf := HC9.out.fz 1; have hC9 := HC9.out.lt; have r0 := HI8.out.rbx.cell 0 (.int .i64 0) rfl; have r1 := HI8.out.rbx.cell 1 (.slice none 0 0) rfl; have rr0 := HR9.out.cell 0 (.int .i64 0) rfl; have rr1 := HR9.out.cell 1 (.slice none 0 0) rfl; have rf0 := HR9.out.fz 0; have rf1 := HR9.out.fz 1; have hRl := HR9.out.lt; clear hown9 hgrow9 hat9)
              have HZ := Lib.hid (ret_cells (u := .int .i64 0) (v := .slice none 0 0) HI8.out.rbx)
              have HBZ := Lib.hid (show Below w.heap.size w (((w9.setCell ⟨CB, 1, none⟩ (.slice A9 (ns.length + 1) c9)).setCell ⟨w.heap.size, 0, none⟩ (.int .i64 0)).setCell ⟨w.heap.size, 1, none⟩ (.slice none 0 0)) from ret_below HI8.out.bel (Nat.le_refl _))
              have z0 := HZ.out.1
              have z1 := HZ.out.2
              refine bodyPost_ret (v := .tuple #[.agg #[.int .i64 0, .slice none 0 0], .int .i64 ((i0 : Int) + 1 + 1), .iface 49 (.int .i64 2)]) (by simp [results, Tryz.results21, go_sem, z0, z1]) rfl ⟨ps_bad _ _ _, HBZ.out⟩
            · go_wp2_with (at_builtin; rw [← hw7]; refine wpList_append_src (by rfl) _ _ 39 (by rfl) Q 97 inf (.agg #[.slice none 0 0, .int .i64 0]) 2 32 sundN hinf iz0 iz1 iz2 rfl (by decide) (.slice NA ns.length nc) ns.length (ngC ns) (by rfl) (by exact HI7.out.row.alloc _) (some ⟨w6.heap.size, 0, none⟩) 1 1 [.slice n.a n.l.length n.c, .int .i64 n.d] (by rfl) (src_of (by rw [← hz7]; exact heap_alloc_new w7 _) rfl (by intro u hu; simp at hu; rcases hu with rfl | rfl <;> rfl)) (by unfold maxLen; omega) (by omega) (by first | omega | (simp; done) | (simp; omega)) ?_; intro v9 w9 hown9 hgrow9 hat9; obtain ⟨A9, c9, rfl⟩ := own_shape hown9; have HO9 := Lib.hid hown9; have HG9 := Lib.hid hgrow9; have HA9 := Lib.hid hat9; have HU9 := Lib.hid (show Below w7.heap.size w7 (w7.alloc (.cells #[.slice n.a n.l.length n.c, .int .i64 n.d] 97)) from (Below.refl _ _).alloc (Nat.le_refl _) _); have HC9 := Lib.hid (show BxI w9 CB 41 #[.int .i64 b, .slice NA ns.length nc] from BxI.grown (HI7.out.cbx.up HU9.out) HG9.out (own_ne_bx (own_below HI7.out.row HU9.out) (HI7.out.cbx.up HU9.out) (by decide))); have HR9 := Lib.hid (show BxI w9 w.heap.size 41 #[.int .i64 0, .slice none 0 0] from BxI.grown (HI7.out.rbx.up HU9.out) HG9.out (own_ne_bx (own_below HI7.out.row HU9.out) (HI7.out.rbx.up HU9.out) (by decide))); have HI8 := Lib.hid (HI7.out.push (by omega) hRC (by omega) (by omega) HU9.out HO9.out HG9.out HA9.out HF7.out); have k0 := HC9.out.cell 1 (.slice NA ns.length nc) rfl; have kf := HC9.out.fz 1; have hC9 := HC9.out.lt; have hz9 := HG9.out.size; have HS9 := Lib.hid (show BxI w9 SB 9 (L.map Value.string).toArray from BxI.grown (HS7.out.up HU9.out) HG9.out (own_ne_bx (own_below HI7.out.row HU9.out) (HS7.out.up HU9.out) (by decide))); clear hown9 hgrow9 hat9)
              go_roundw
              case rel => exact ⟨i0 + 1 + 1, b, A9, c9, ns ++ [n], by go_num, by omega, by simp; omega, by have hza := HU9.out.size; simp; omega, HI8, Lib.hid (show BxI (w9.setCell ⟨CB, 1, none⟩ (.slice A9 (ns.length + 1) c9)) SB 9 (L.map Value.string).toArray from HS9.out.far (by show SB ≠ CB; omega) _)⟩
              case measure => simp [intOf]; omega
          · have e0 : decide ((i0 : Int) + 1 < L.length - 1) = false := decide_eq_false (by omega)
            cases hxe : (x.toList == [])
            · skip
              obtain ⟨NB, hNB⟩ : ∃ NB, NB = wt.heap.size := ⟨_, rfl⟩
              obtain ⟨W5, hW5⟩ : ∃ W5, W5 = wt.alloc (.cells #[.slice none 0 0, .int .i64 0] 97) := ⟨_, rfl⟩
              have HB5 := Lib.hid (show Below wt.heap.size wt W5 by rw [hW5]; exact (Below.refl _ _).alloc (Nat.le_refl _) _)
              have HN5 := Lib.hid (show BxI W5 NB 97 #[.slice none 0 0, .int .i64 0] by rw [hW5, hNB]; exact BxI.new _ _ _)
              have KN := Lib.hid (nogood_any x W5 (by omega) (HEt.out.up HB5.out))
              go_wp2_with fail
              rw [← hW5, ← hNB]
              have HW5 := Lib.hid hW5
              have HNB := Lib.hid hNB
              clear hW5 hNB d1 hSl
              refine KN.out.mono ?_
              rintro e w6 ⟨⟨n, k6, rfl, hnl, hnf⟩, hb6⟩
              have HI6 := Lib.hid ((HI.out.up HB5.out).up hb6)
              have HS6 := Lib.hid ((HS.out.up HB5.out).up hb6)
              have HN6 := Lib.hid (HN5.out.up hb6)
              have HNF := Lib.hid hnf
              have hz5 := HB5.out.size
              have hz6 := hb6.size
              have hQN : Q ≤ NB := by rw [HNB.out]; exact hQt
              have hNW : NB < W5.heap.size := HN5.out.lt
              have hne6 : (Value.slice NA ns.length nc).ownBlock ≠ some NB := fun e => by have := (HI.out.row.lt NB e).2; have := HNB.out; omega
              have HNE6 := Lib.hid hne6
              have hff6 : ∀ y ∈ ns, Fac w6 (fun q => (q < Q ∨ (Value.slice NA ns.length nc).ownBlock = some q) ∨ q = NB) y.a y.l := fun y hy =>
                (((HI.out.fac y hy).move (bad' := fun q => (q < Q ∨ (Value.slice NA ns.length nc).ownBlock = some q) ∨ q = NB) ⟨Nat.le_refl _, fun _ _ _ => rfl, fun q hq h => h.elim id (fun h => by have := HNB.out; omega)⟩).up HB5.out).up hb6
              have hp1 := HI6.out.oth (X := NB) (i := 0) (.slice n.a n.l.length n.c) (by omega) (by omega) (by omega) hne6 hff6
              have hp2 := hp1.1.oth (X := NB) (i := 1) (.int .i64 n.d) (by omega) (by omega) (by omega) hne6 hp1.2
              obtain ⟨w7, hw7⟩ : ∃ w7, w7 = (w6.setCell ⟨NB, 0, none⟩ (.slice n.a n.l.length n.c)).setCell ⟨NB, 1, none⟩ (.int .i64 n.d) := ⟨_, rfl⟩
              have HI7 := Lib.hid (show PaI w w.heap.size CB Q b NA nc ns w7 by rw [hw7]; exact hp2.1)
              have HS7 := Lib.hid (show BxI w7 SB 9 (L.map Value.string).toArray by rw [hw7]; exact (HS6.out.far (by show SB ≠ NB; omega) _).far (by show SB ≠ NB; omega) _)
              have HF7 := Lib.hid (show Fac w7 (fun q => q < Q ∨ (Value.slice NA ns.length nc).ownBlock = some q) n.a n.l by
                rw [hw7]
                have h0 : Fac w6 (fun q => (q < Q ∨ (Value.slice NA ns.length nc).ownBlock = some q) ∨ q = NB) n.a n.l := HNF.out.sub fun q _ hq => by
                  rcases hq with (hq | hq) | hq
                  · omega
                  · have := (HI.out.row.lt q hq).2; omega
                  · omega
                exact ((h0.move (Moves.set (p := ⟨NB, 0, none⟩) _ (.inr rfl))).move (Moves.set (bad := fun q => (q < Q ∨ (Value.slice NA ns.length nc).ownBlock = some q) ∨ q = NB) (p := ⟨NB, 1, none⟩) _ (.inr rfl))).sub (fun _ _ h => .inl h))
              have hz7 : w7.heap.size = w6.heap.size := by rw [hw7]; simp
              have m0 := HN6.out.cell 0 (.slice none 0 0) rfl
              have m1 := HN6.out.cell 1 (.int .i64 0) rfl
              have mf0 := HN6.out.fz 0
              have mf1 := HN6.out.fz 1
              have hNl := HN6.out.lt
              have c1 := HI6.out.cbx.cell 1 (.slice NA ns.length nc) rfl
              have hCl := HI6.out.cbx.lt
              have hCN : CB < NB := by omega
              have hnn : ns.length ≤ 70000 := by omega
              clear hb6 KN hnf hne6 hff6 hp1 hp2
              cases k6
              · go_wp2_with (at_builtin; rw [← hw7]; refine wpList_append_src (by rfl) _ _ 39 (by rfl) Q 97 inf (.agg #[.slice none 0 0, .int .i64 0]) 2 32 sundN hinf iz0 iz1 iz2 rfl (by decide) (.slice NA ns.length nc) ns.length (ngC ns) (by rfl) (by exact HI7.out.row.alloc _) (some ⟨w6.heap.size, 0, none⟩) 1 1 [.slice n.a n.l.length n.c, .int .i64 n.d] (by rfl) (src_of (by rw [← hz7]; exact heap_alloc_new w7 _) rfl (by intro u hu; simp at hu; rcases hu with rfl | rfl <;> rfl)) (by unfold maxLen; omega) (by omega) (by first | omega | (simp; done) | (simp; omega)) ?_; intro v9 w9 hown9 hgrow9 hat9; obtain ⟨A9, c9, rfl⟩ := own_shape hown9; have HO9 := Lib.hid hown9; have HG9 := Lib.hid hgrow9; have HA9 := Lib.hid hat9; have HU9 := Lib.hid (show Below w7.heap.size w7 (w7.alloc (.cells #[.slice n.a n.l.length n.c, .int .i64 n.d] 97)) from (Below.refl _ _).alloc (Nat.le_refl _) _); have HC9 := Lib.hid (show BxI w9 CB 41 #[.int .i64 b, .slice NA ns.length nc] from BxI.grown (HI7.out.cbx.up HU9.out) HG9.out (own_ne_bx (own_below HI7.out.row HU9.out) (HI7.out.cbx.up HU9.out) (by decide))); have HR9 := Lib.hid (show BxI w9 w.heap.size 41 #[.int .i64 0, .slice none 0 0] from BxI.grown (HI7.out.rbx.up HU9.out) HG9.out (own_ne_bx (own_below HI7.out.row HU9.out) (HI7.out.rbx.up HU9.out) (by decide))); have HI8 := Lib.hid (HI7.out.push (by omega) hRC (by omega) (by omega) HU9.out HO9.out HG9.out HA9.out HF7.out); have k0 := HC9.out.cell 1 (.slice NA ns.length nc) rfl; have kf := HC9.out.fz 1; have hC9 := HC9.out.lt; have r0 := HI8.out.rbx.cell 0 (.int .i64 0) rfl; have r1 := HI8.out.rbx.cell 1 (.slice none 0 0) rfl; have rr0 := HR9.out.cell 0 (.int .i64 0) rfl; have rr1 := HR9.out.cell 1 (.slice none 0 0) rfl; have rf0 := HR9.out.fz 0; have rf1 := HR9.out.fz 1; have hRl := HR9.out.lt; clear hown9 hgrow9 hat9)
                have HZ := Lib.hid (ret_cells (u := .int .i64 0) (v := .slice none 0 0) HI8.out.rbx)
                have HBZ := Lib.hid (show Below w.heap.size w (((w9.setCell ⟨CB, 1, none⟩ (.slice A9 (ns.length + 1) c9)).setCell ⟨w.heap.size, 0, none⟩ (.int .i64 0)).setCell ⟨w.heap.size, 1, none⟩ (.slice none 0 0)) from ret_below HI8.out.bel (Nat.le_refl _))
                have z0 := HZ.out.1
                have z1 := HZ.out.2
                refine bodyPost_ret (v := .tuple #[.agg #[.int .i64 0, .slice none 0 0], .int .i64 ((i0 : Int) + 1 + 1), .iface 49 (.int .i64 2)]) (by simp [results, Tryz.results21, go_sem, z0, z1]) rfl ⟨ps_bad _ _ _, HBZ.out⟩
              · go_wp2_with (at_builtin; rw [← hw7]; refine wpList_append_src (by rfl) _ _ 39 (by rfl) Q 97 inf (.agg #[.slice none 0 0, .int .i64 0]) 2 32 sundN hinf iz0 iz1 iz2 rfl (by decide) (.slice NA ns.length nc) ns.length (ngC ns) (by rfl) (by exact HI7.out.row.alloc _) (some ⟨w6.heap.size, 0, none⟩) 1 1 [.slice n.a n.l.length n.c, .int .i64 n.d] (by rfl) (src_of (by rw [← hz7]; exact heap_alloc_new w7 _) rfl (by intro u hu; simp at hu; rcases hu with rfl | rfl <;> rfl)) (by unfold maxLen; omega) (by omega) (by first | omega | (simp; done) | (simp; omega)) ?_; intro v9 w9 hown9 hgrow9 hat9; obtain ⟨A9, c9, rfl⟩ := own_shape hown9; have HO9 := Lib.hid hown9; have HG9 := Lib.hid hgrow9; have HA9 := Lib.hid hat9; have HU9 := Lib.hid (show Below w7.heap.size w7 (w7.alloc (.cells #[.slice n.a n.l.length n.c, .int .i64 n.d] 97)) from (Below.refl _ _).alloc (Nat.le_refl _) _); have HC9 := Lib.hid (show BxI w9 CB 41 #[.int .i64 b, .slice NA ns.length nc] from BxI.grown (HI7.out.cbx.up HU9.out) HG9.out (own_ne_bx (own_below HI7.out.row HU9.out) (HI7.out.cbx.up HU9.out) (by decide))); have HR9 := Lib.hid (show BxI w9 w.heap.size 41 #[.int .i64 0, .slice none 0 0] from BxI.grown (HI7.out.rbx.up HU9.out) HG9.out (own_ne_bx (own_below HI7.out.row HU9.out) (HI7.out.rbx.up HU9.out) (by decide))); have HI8 := Lib.hid (HI7.out.push (by omega) hRC (by omega) (by omega) HU9.out HO9.out HG9.out HA9.out HF7.out); have k0 := HC9.out.cell 1 (.slice NA ns.length nc) rfl; have kf := HC9.out.fz 1; have hC9 := HC9.out.lt; have r0 := HI8.out.rbx.cell 0 (.int .i64 0) rfl; have r1 := HI8.out.rbx.cell 1 (.slice none 0 0) rfl; have rr0 := HR9.out.cell 0 (.int .i64 0) rfl; have rr1 := HR9.out.cell 1 (.slice none 0 0) rfl; have rf0 := HR9.out.fz 0; have rf1 := HR9.out.fz 1; have hRl := HR9.out.lt; clear hown9 hgrow9 hat9)
                have HZ := Lib.hid (ret_cells (u := .int .i64 0) (v := .slice none 0 0) HI8.out.rbx)
                have HBZ := Lib.hid (show Below w.heap.size w (((w9.setCell ⟨CB, 1, none⟩ (.slice A9 (ns.length + 1) c9)).setCell ⟨w.heap.size, 0, none⟩ (.int .i64 0)).setCell ⟨w.heap.size, 1, none⟩ (.slice none 0 0)) from ret_below HI8.out.bel (Nat.le_refl _))
                have z0 := HZ.out.1
                have z1 := HZ.out.2
                refine bodyPost_ret (v := .tuple #[.agg #[.int .i64 0, .slice none 0 0], .int .i64 ((i0 : Int) + 1 + 1), .iface 49 (.int .i64 2)]) (by simp [results, Tryz.results21, go_sem, z0, z1]) rfl ⟨ps_bad _ _ _, HBZ.out⟩
            · clear hxs HEt
              have KC := Lib.hid (ccheck_any b ns NA nc wt (HI.out.nls (by omega)))
              have c0 := HI.out.cbx.cell 0 (.int .i64 b) rfl
              have c1 := HI.out.cbx.cell 1 (.slice NA ns.length nc) rfl
              have hCl := HI.out.cbx.lt
              go_wp2_with fail
              refine KC.out.mono ?_
              rintro e w3 ⟨rfl, hb3⟩
              have HI3 := Lib.hid (HI.out.up hb3)
              clear hb3 KC c0 c1 hCl
              have r0 := HI3.out.rbx.cell 0 (.int .i64 0) rfl
              have r1 := HI3.out.rbx.cell 1 (.slice none 0 0) rfl
              have rf0 := HI3.out.rbx.fz 0
              have rf1 := HI3.out.rbx.fz 1
              have hRl := HI3.out.rbx.lt
              obtain ⟨ec, hec⟩ : ∃ ec, ec = chkN b ns := ⟨_, rfl⟩
              have HEC := Lib.hid hec
              rw [← hec]
              clear hec
              by_cases he0 : ec = 0
              · have c0 := HI3.out.cbx.cell 0 (.int .i64 b) rfl
                have c1 := HI3.out.cbx.cell 1 (.slice NA ns.length nc) rfl
                have hCl := HI3.out.cbx.lt
                have HZ := Lib.hid (ret_cells (u := .int .i64 b) (v := .slice NA ns.length nc) HI3.out.rbx)
                have HBZ := Lib.hid (show Below w.heap.size w ((w3.setCell ⟨w.heap.size, 0, none⟩ (.int .i64 b)).setCell ⟨w.heap.size, 1, none⟩ (.slice NA ns.length nc)) from ret_below HI3.out.bel (Nat.le_refl _))
                have HNL := Lib.hid (HI3.out.ret (by omega) (by omega) (.int .i64 b) (.slice NA ns.length nc))
                have HCK := Lib.hid (show chkN b ns = 0 by rw [← HEC.out]; exact he0)
                rw [he0, erV_0]
                clear he0
                go_wp2
                have z0 := HZ.out.1
                have z1 := HZ.out.2
                refine bodyPost_ret (v := .tuple #[.agg #[.int .i64 b, .slice NA ns.length nc], .int .i64 0, .nilIface]) (by simp [results, Tryz.results21, go_sem, z0, z1]) rfl ⟨.inl ⟨b, NA, nc, ns, 0, rfl, HNL.out, HCK.out⟩, HBZ.out⟩
              · have HZ := Lib.hid (ret_cells (u := .int .i64 0) (v := .slice none 0 0) HI3.out.rbx)
                have HBZ := Lib.hid (show Below w.heap.size w ((w3.setCell ⟨w.heap.size, 0, none⟩ (.int .i64 0)).setCell ⟨w.heap.size, 1, none⟩ (.slice none 0 0)) from ret_below HI3.out.bel (Nat.le_refl _))
                rw [erV_nz he0]
                clear he0
                go_wp2
                have z0 := HZ.out.1
                have z1 := HZ.out.2
                refine bodyPost_ret (v := .tuple #[.agg #[.int .i64 0, .slice none 0 0], .int .i64 0, .iface 49 (.int .i64 ec)]) (by simp [results, Tryz.results21, go_sem, z0, z1]) rfl ⟨ps_bad _ _ _, HBZ.out⟩
      · skip
        have KC := Lib.hid (ccheck_any b ns NA nc wt (HI.out.nls (by omega)))
        have c0 := HI.out.cbx.cell 0 (.int .i64 b) rfl
        have c1 := HI.out.cbx.cell 1 (.slice NA ns.length nc) rfl
        have hCl := HI.out.cbx.lt
        go_wp2_with fail
        refine KC.out.mono ?_
        rintro e w3 ⟨rfl, hb3⟩
        have HI3 := Lib.hid (HI.out.up hb3)
        clear hb3 KC c0 c1 hCl
        have r0 := HI3.out.rbx.cell 0 (.int .i64 0) rfl
        have r1 := HI3.out.rbx.cell 1 (.slice none 0 0) rfl
        have rf0 := HI3.out.rbx.fz 0
        have rf1 := HI3.out.rbx.fz 1
        have hRl := HI3.out.rbx.lt
        obtain ⟨ec, hec⟩ : ∃ ec, ec = chkN b ns := ⟨_, rfl⟩
        have HEC := Lib.hid hec
        rw [← hec]
        clear hec
        by_cases he0 : ec = 0
        · have c0 := HI3.out.cbx.cell 0 (.int .i64 b) rfl
          have c1 := HI3.out.cbx.cell 1 (.slice NA ns.length nc) rfl
          have hCl := HI3.out.cbx.lt
          have HZ := Lib.hid (ret_cells (u := .int .i64 b) (v := .slice NA ns.length nc) HI3.out.rbx)
          have HBZ := Lib.hid (show Below w.heap.size w ((w3.setCell ⟨w.heap.size, 0, none⟩ (.int .i64 b)).setCell ⟨w.heap.size, 1, none⟩ (.slice NA ns.length nc)) from ret_below HI3.out.bel (Nat.le_refl _))
          have HNL := Lib.hid (HI3.out.ret (by omega) (by omega) (.int .i64 b) (.slice NA ns.length nc))
          have HCK := Lib.hid (show chkN b ns = 0 by rw [← HEC.out]; exact he0)
          rw [he0, erV_0]
          clear he0
          go_wp2
          have z0 := HZ.out.1
          have z1 := HZ.out.2
          refine bodyPost_ret (v := .tuple #[.agg #[.int .i64 b, .slice NA ns.length nc], .int .i64 0, .nilIface]) (by simp [results, Tryz.results21, go_sem, z0, z1]) rfl ⟨.inl ⟨b, NA, nc, ns, 0, rfl, HNL.out, HCK.out⟩, HBZ.out⟩
        · have HZ := Lib.hid (ret_cells (u := .int .i64 0) (v := .slice none 0 0) HI3.out.rbx)
          have HBZ := Lib.hid (show Below w.heap.size w ((w3.setCell ⟨w.heap.size, 0, none⟩ (.int .i64 0)).setCell ⟨w.heap.size, 1, none⟩ (.slice none 0 0)) from ret_below HI3.out.bel (Nat.le_refl _))
          rw [erV_nz he0]
          clear he0
          go_wp2
          have z0 := HZ.out.1
          have z1 := HZ.out.2
          refine bodyPost_ret (v := .tuple #[.agg #[.int .i64 0, .slice none 0 0], .int .i64 0, .iface 49 (.int .i64 ec)]) (by simp [results, Tryz.results21, go_sem, z0, z1]) rfl ⟨ps_bad _ _ _, HBZ.out⟩
end Go.Proofs.YtlkebhiaimijiaaGreatDoor

/- Texts of tasks, plain. -/
import Derived.Test.YtkeelkpmajmjmaaDoorFtxP
import Derived.Test.YtkeelkpmajmjmaaDoorGoodP
namespace Go.Proofs.YtkeelkpmajmjmaaDoor
set_option linter.unusedSimpArgs false
set_option linter.unusedVariables false
open Go Go.Lib
set_option linter.unusedVariables false

def bs (l : List UInt8) : ByteArray := ⟨l.toArray⟩
theorem bs_data (l : List UInt8) : (bs l).data.toList = l := rfl
theorem bs_app (a b : List UInt8) : bs a ++ bs b = bs (a ++ b) := by
  apply ByteArray.ext
  apply Array.toList_inj.1
  rw [ByteArray.data_append, Array.toList_append]
  rfl
theorem bs_size (l : List UInt8) : (bs l).size = l.length := by show l.toArray.size = _; simp
theorem bs_of (b : ByteArray) : bs b.data.toList = b := by
  apply ByteArray.ext
  apply Array.toList_inj.1
  rfl
/-- Numbers, facts: a blank before each one. -/
def nuL (l : List Int) (k : Nat) : List UInt8 := (l.take k).flatMap fun n => 32 :: itoa n
def fxL (x : Int × Int) : List UInt8 := itoa x.1 ++ 61 :: itoa x.2
def faL (f : List (Int × Int)) (k : Nat) : List UInt8 := (f.take k).flatMap fun x => 32 :: fxL x
def efH (e : Eff) : List UInt8 := [101, 102, 102] ++ faL [(e.var, e.val)] 1
def efL (e : Eff) : List UInt8 := efH e ++ ((if e.whn.length = 0 then [] else [32, 105, 102] ++ faL e.whn e.whn.length) ++ [10])
def opH (o : Opr) : List UInt8 := ([111, 112, 32] ++ itoa o.cost ++ [32] ++ o.name.data.toList ++ [10, 112, 114, 101]) ++ faL o.pre o.pre.length ++ [10]
def opL (o : Opr) (k : Nat) : List UInt8 := opH o ++ (o.effs.take k).flatMap efL
def fmH (t : Tsk) : List UInt8 := [118, 97, 114, 115] ++ nuL t.vars t.vars.length ++ [10, 105, 110, 105, 116] ++ nuL t.init t.init.length ++ [10, 103, 111, 97, 108] ++ faL t.goal t.goal.length ++ [10]
def fmL (t : Tsk) (k : Nat) : List UInt8 := fmH t ++ (t.ops.take k).flatMap fun o => opL o o.effs.length
section
variable {l : List Int} {f : List (Int × Int)} {k : Nat}
theorem take_nth (h : k < l.length) : l.take (k + 1) = l.take k ++ [nth l k] := by
  rw [List.take_succ_eq_append_getElem h]
  unfold nth
  simp [List.getD, h]
theorem take_fac (h : k < f.length) : f.take (k + 1) = f.take k ++ [(fv f k, fx f k)] := by
  have e : (fv f k, fx f k) = f[k] := by unfold fv fx; simp [List.getD, List.getElem?_eq_getElem h]
  rw [e, List.take_succ_eq_append_getElem h]
theorem nuL_zero : nuL l 0 = [] := rfl
theorem nuL_succ (h : k < l.length) : nuL l (k + 1) = nuL l k ++ (32 :: itoa (nth l k)) := by
  unfold nuL
  rw [take_nth h, List.flatMap_append]
  simp
theorem faL_succ (h : k < f.length) : faL f (k + 1) = faL f k ++ (32 :: fxL (fv f k, fx f k)) := by
  unfold faL
  rw [take_fac h, List.flatMap_append]
  simp
theorem itoa_len (n : Int) (h0 : -9223372036854775808 ≤ n) (h1 : n ≤ 9223372036854775807) : (itoa n).length ≤ 21 := itoa_length_le n h0 h1
theorem nuL_len (h : ∀ j, j < l.length → -9223372036854775808 ≤ nth l j ∧ nth l j ≤ 9223372036854775807) : ∀ k, k ≤ l.length → (nuL l k).length ≤ k * 22
  | 0, _ => by rw [nuL_zero]; simp
  | k + 1, hk => by
    have h1 := nuL_len h k (by omega)
    have h2 := itoa_len _ (h k (by omega)).1 (h k (by omega)).2
    rw [nuL_succ (by omega), List.length_append, List.length_cons]
    omega
theorem fxL_len {x y : Int} (h0 : -9223372036854775808 ≤ x) (h1 : x ≤ 9223372036854775807) (h2 : -9223372036854775808 ≤ y) (h3 : y ≤ 9223372036854775807) : (fxL (x, y)).length ≤ 43 := by
  have a := itoa_len x h0 h1
  have b := itoa_len y h2 h3
  show (itoa x ++ 61 :: itoa y).length ≤ 43
  rw [List.length_append, List.length_cons]
  omega
def FacIn (f : List (Int × Int)) : Prop := ∀ j, j < f.length → (0 ≤ fv f j ∧ fv f j ≤ 1000000) ∧ 0 ≤ fx f j ∧ fx f j ≤ 1000000
theorem faL_len (h : FacIn f) : ∀ k, k ≤ f.length → (faL f k).length ≤ k * 44
  | 0, _ => by unfold faL; simp
  | k + 1, hk => by
    have h1 := faL_len h k (by omega)
    have h2 := h k (by omega)
    have h3 := fxL_len (x := fv f k) (y := fx f k) (by omega) (by omega) (by omega) (by omega)
    rw [faL_succ (by omega), List.length_append, List.length_cons]
    omega
end
section
variable {t : Tsk}
theorem fac_in (hr : Right t) {f : List (Int × Int)} (h : faB t.vars f = true) : FacIn f := fun j hj => by
  have h1 := fa_at h hj
  have h2 := hr.nv
  have h3 := hr.dom (fv f j).toNat (by omega)
  omega
theorem efs_at {o : Opr} {k : Nat} (h : k < o.effs.length) : o.effs.take (k + 1) = o.effs.take k ++ [eff o.effs k] := by
  rw [List.take_succ_eq_append_getElem h]
  unfold eff
  simp [List.getD, h]
theorem ops_at {k : Nat} (h : k < t.ops.length) : t.ops.take (k + 1) = t.ops.take k ++ [opr t.ops k] := by
  rw [List.take_succ_eq_append_getElem h]
  unfold opr
  simp [List.getD, h]
theorem opL_succ {o : Opr} {k : Nat} (h : k < o.effs.length) : opL o (k + 1) = opL o k ++ efL (eff o.effs k) := by
  unfold opL
  rw [efs_at h, List.flatMap_append, List.append_assoc]
  simp
theorem fmL_succ {k : Nat} (h : k < t.ops.length) : fmL t (k + 1) = fmL t k ++ opL (opr t.ops k) (opr t.ops k).effs.length := by
  unfold fmL
  rw [ops_at h, List.flatMap_append, List.append_assoc]
  simp
theorem efL_len (hr : Right t) {k j : Nat} (hk : k < t.ops.length) (hj : j < (opr t.ops k).effs.length) : (efL (eff (opr t.ops k).effs j)).length ≤ 3000 := by
  have h1 := hr.eff k hk j hj
  have h2 := hr.nv
  have h3 := hr.dom (eff (opr t.ops k).effs j).var.toNat (by omega)
  have h4 := faL_len (f := [((eff (opr t.ops k).effs j).var, (eff (opr t.ops k).effs j).val)]) (fun i hi => by
    have : i = 0 := by simp at hi; omega
    subst this
    show (0 ≤ (eff (opr t.ops k).effs j).var ∧ _) ∧ 0 ≤ (eff (opr t.ops k).effs j).val ∧ _
    refine ⟨⟨by omega, ?_⟩, by omega, ?_⟩
    · show (eff (opr t.ops k).effs j).var ≤ _; omega
    · show (eff (opr t.ops k).effs j).val ≤ _; omega) 1 (by simp)
  have h5 := faL_len (fac_in hr (hr.whn k hk j hj)) _ (Nat.le_refl _)
  have h6 := hr.nw k hk j hj
  unfold efL efH
  simp only [List.length_append, List.length_cons, List.length_nil]
  split
  · simp only [List.length_nil]; omega
  · simp only [List.length_append, List.length_cons, List.length_nil]; omega
theorem opL_len (hr : Right t) {k : Nat} (hk : k < t.ops.length) (hn : (opr t.ops k).name.size ≤ 256) : ∀ j, j ≤ (opr t.ops k).effs.length → (opL (opr t.ops k) j).length ≤ 4000 + j * 3000
  | 0, _ => by
    have h1 := hr.cost k hk
    have h2 := itoa_len (opr t.ops k).cost (by omega) (by omega)
    have h3 := faL_len (fac_in hr (hr.pre k hk)) _ (Nat.le_refl _)
    have h4 := hr.np k hk
    have h5 : (opr t.ops k).name.data.toList.length = (opr t.ops k).name.size := rfl
    unfold opL opH
    simp only [List.length_append, List.length_cons, List.length_nil, List.take_zero, List.flatMap_nil]
    omega
  | j + 1, hj => by
    have h1 := opL_len hr hk hn j (by omega)
    have h2 := efL_len hr hk (j := j) (by omega)
    rw [opL_succ (by omega), List.length_append]
    omega
theorem fmH_len (hr : Right t) : (fmH t).length ≤ 10000 := by
  have hi := hr.init
  have hn := hr.nv
  unfold stB at hi
  simp only [decide_eq_true_eq] at hi
  obtain ⟨hi1, hi2⟩ := hi
  have h1 := nuL_len (l := t.vars) (fun j hj => by have := hr.dom j hj; omega) _ (Nat.le_refl _)
  have h2 := nuL_len (l := t.init) (fun j hj => by
    have := hi2 j (by omega)
    have := hr.dom j (by omega)
    omega) _ (Nat.le_refl _)
  have h3 := faL_len (fac_in hr hr.goal) _ (Nat.le_refl _)
  have h4 := hr.ng
  unfold fmH
  simp only [List.length_append, List.length_cons, List.length_nil]
  omega
theorem fmL_len (hr : Right t) (hn : ∀ k, k < t.ops.length → (opr t.ops k).name.size ≤ 256) : ∀ k, k ≤ t.ops.length → (fmL t k).length ≤ 10000 + k * 200000
  | 0, _ => by
    have h1 := fmH_len hr
    unfold fmL
    simp only [List.length_append, List.take_zero, List.flatMap_nil, List.length_nil]
    omega
  | k + 1, hk => by
    have h1 := fmL_len hr hn k (by omega)
    have h2 := opL_len hr (k := k) (by omega) (hn k (by omega)) _ (Nat.le_refl _)
    have h3 := hr.ne k (by omega)
    rw [fmL_succ (by omega), List.length_append]
    omega
end

end Go.Proofs.YtkeelkpmajmjmaaDoor

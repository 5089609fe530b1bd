/-
  Regions that draw their order and only read: the place of an element, its cell, its cells. Texts are compared. No program is named here.
-/
import Derived.Test.YtdekogmegdhjoaaDoorFr6
namespace Go.Proofs.YtdekogmegdhjoaaDoor
open Go.RowKit

section
variable {P : Program} {o : Oper} {a : Act}
theorem yi_run {S : World → Prop} {ops : Array Oper} {v : Value} (hw : Region.wanted o (yielded ops a.tmps) = true) (h : ∀ w, S w → (execOp a.eval o).run P w = .ok (.value v) w) : YieldsIf P ops S o v a := .inl ⟨hw, h⟩
theorem yi_ix {S : World → Prop} {ops : Array Oper} (hw : Region.wanted o (yielded ops a.tmps) = true) {t e : TypeId} {size bytes : Nat} {z : Value} (T : SlT P t e size bytes z) {A : Option Addr} {n k : Nat} {j : Int} (hA : 0 < n → A = some (A.getD default))
    (ho : IsIx o a t A n j) (hj : j = (k : Int)) (hk : k < n) : YieldsIf P ops S o (.pointer (some (atp A (k * size)))) a := by
  refine yi_run hw fun w _ => ?_
  obtain ⟨x, i, c, kd, ho, hx, hi⟩ := ho
  obtain ⟨i', hi', _, hsz, _⟩ := info_parts T.info
  have hA := hA (by omega)
  have he : P.elem t = e := by simp [Program.elem, T.und]
  subst hj
  unfold execOp
  have hrun := run_indexAt_slice (P := P) w t (A.getD default) n c kd (k : Int) (by rw [he]; exact T.und)
  rw [if_pos ⟨by omega, by omega⟩] at hrun
  simp only [ho, hx, hi]
  rw [hA]
  simp [hrun, he, sizeOf, typeInfo, hi', hsz, atp]
theorem yi_ld {S : World → Prop} {ops : Array Oper} (hw : Region.wanted o (yielded ops a.tmps) = true) {S' : World → Nat → Prop} {A : Option Addr} {n size : Nat} {xs : List Value} (hr : ∀ w, S w → Rd w (S' w) A size n xs) {e : TypeId} {j : Nat} {u : Value} {d : TypeDesc} (hu : P.underlying e = some d) (hd : aggT d = false)
    (ho : IsLd o a e (atp A j)) (hj : xs[j]? = some u) : YieldsIf P ops S o u a := by
  refine yi_run hw fun w hS => ?_
  obtain ⟨x, ho, hx⟩ := ho
  have hc := (hr w hS).cell j u hj
  have hagg := run_isAgg hu w
  rw [hd] at hagg
  unfold execOp
  simp [ho, hx, Instr.loadAt, Instr.sureAddr, loadVar, hagg, hc]
theorem yi_ldA {S : World → Prop} {ops : Array Oper} (hw : Region.wanted o (yielded ops a.tmps) = true) {S' : World → Nat → Prop} {A : Option Addr} {n size : Nat} {xs : List Value} (hr : ∀ w, S w → Rd w (S' w) A size n xs) {e : TypeId} {j : Nat} {d : TypeDesc} (hu : P.underlying e = some d) (hd : aggT d = true)
    (ho : IsLd o a e (atp A j)) {ds : List Value} (hs : (P.info? e).map (·.size) = some ds.length) (hc : (xs.drop j).take ds.length = ds) : YieldsIf P ops S o (.agg ds.toArray) a := by
  refine yi_run hw fun w hS => ?_
  obtain ⟨x, ho, hx⟩ := ho
  have hagg := run_isAgg hu w
  rw [hd] at hagg
  obtain ⟨i, hi, hsz⟩ := Option.map_eq_some_iff.1 hs
  have hl : (loadCells (atp A j) ds.length).run P w = .ok ds.toArray w := run_loadCells_list (P := P) w (atp A j) ds (fun q v hv => by
    unfold atp
    rw [add_add]
    refine (hr w hS).cell (j + q) v ?_
    rw [← hc, List.getElem?_take] at hv
    split at hv
    · rw [List.getElem?_drop] at hv; exact hv
    · cases hv)
  unfold execOp
  simp [ho, hx, Instr.loadAt, Instr.sureAddr, loadVar, hagg, sizeOf, typeInfo, hi, hsz, hl]
/-- Two arrays of bytes compared: they differ? -/
theorem yi_neB {S : World → Prop} {ops : Array Oper} (hw : Region.wanted o (yielded ops a.tmps) = true) {t e : TypeId} {n : Nat} (ht : P.underlying t = some (.array n e)) (he : P.underlying e = some (.int .u8)) (hs : (P.info? e).map (·.size) = some 1) (hg : P.eqGuardType P.depth t = false) {l m : List UInt8} (hl : l.length = n) (hm : m.length = n)
    {x y : Operand} {ty : TypeId} (ho : o.op = .binOp .neq t x y ty) (hx : a.eval x = .agg (l.map bv).toArray) (hy : a.eval y = .agg (m.map bv).toArray) {r : Bool} (hr : (l == m) = r) : YieldsIf P ops S o (.bool (!r)) a := by
  subst hr
  refine yi_run hw fun w _ => ?_
  have h1 := run_eqGuard_agg (P := P) w .neq t x y (l.map bv).toArray (m.map bv).toArray hg
  have h2 := run_neq_struct (P := P) w t (l.map bv).toArray (m.map bv).toArray
  have h3 := run_eqBytes (P := P) ht he hs l m hl hm 9998 w
  unfold execOp
  simp only [ho, hx, hy, Sem.run_bind, h1, h2, h3, Result.andThen_ok, Sem.run_pure]
end
end Go.Proofs.YtdekogmegdhjoaaDoor

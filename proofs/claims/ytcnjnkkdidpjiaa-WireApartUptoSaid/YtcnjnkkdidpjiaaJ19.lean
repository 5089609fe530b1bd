/-
  The walk of the document's Same.
  Regions that draw their order and only read: the place of an element, its cell, its cells. Texts are compared. No program is named here.
-/
import Derived.Test.YtcnjnkkdidpjiaaJ02
import Derived.Deep.QuietTactic
import Derived.BigQuiet
import Derived.Test.YtcnjnkkdidpjiaaJ10
namespace Go.Proofs.Ytcnjnkkdidpjiaa
open Go.RowKit

set_option maxRecDepth 20000 in
set_option maxHeartbeats 400000 in
theorem same_any (A B : Option Addr) (n m c d : Nat) (l k : List UInt8) (w : World) (hm : n ≤ 9223372036854775807) (hr : Rd w (· < w.heap.size) A 1 n (l.map bv)) (hr2 : Rd w (· < w.heap.size) B 1 m (k.map bv)) :
    Calls Try.prog 13 #[.slice A n c, .slice B m d] w fun e w' => e = .returned (.bool (l == k)) ∧ Below w.heap.size w w' := by
  have hl := box hr.bytes_len
  have hk := box hr2.bytes_len
  by_cases hnm : n = m
  · subst hnm
    go_enter Try.func13, Try.ntmps13
    go_wp2
    go_loopw [5] (fun i wr => ∃ j : Nat, j ≤ n ∧ Box (l.take j = k.take j) ∧ i = .int .i64 j ∧ Below w.heap.size w wr) (fun i _ => n - (intOf i).toNat)
    case atStart => exact ⟨0, by omega, box rfl, rfl, Below.refl _ _⟩
    case round =>
      obtain ⟨j, hj, HT, rfl, hb⟩ := hrel
      by_cases hlt : j < n
      · obtain ⟨ad, x, hA, hx, hcx⟩ := (hr.below hb).atB hlt
        obtain ⟨bd, y, hB, hy, hcy⟩ := (hr2.below hb).atB hlt
        replace hx := box hx
        replace hy := box hy
        clear hr hr2
        subst hA hB
        by_cases hxy : x = y
        · subst hxy
          go_wp2
          go_quiet (fail)
          go_wp2
          go_roundw
          case rel => exact ⟨j + 1, by omega, box (by rw [take_snoc hx.out, take_snoc hy.out, HT.out]), by go_num, below_drewN hb _⟩
          case measure => simp [intOf]; omega
        · have hne : ((x.toNat : Int) != (y.toNat : Int)) = true := by
            simp only [bne_iff_ne, ne_eq]
            intro h; exact hxy (UInt8.toNat_inj.1 (by omega))
          replace hxy := box hxy
          go_wp2
          go_quiet (fail)
          go_wp2
          go_ret
          exact ⟨by rw [beq_false_of_ne (fun h => hxy.out (by have h1 := hx.out; have h2 := hy.out; rw [h, h2] at h1; injection h1 with h1; exact h1.symm))]; rfl, below_drewN hb _⟩
      · go_wp2
        go_ret
        have he : l = k := by
          have := HT.out
          rwa [List.take_of_length_le (by have := hl.out; omega), List.take_of_length_le (by have := hk.out; omega)] at this
        exact ⟨by rw [he, beq_self_eq_true]; rfl, hb⟩
  · have hne : ((n : Int) != (m : Int)) = true := by simp only [bne_iff_ne, ne_eq]; omega
    have hlk : (l == k) = false := beq_false_of_ne (fun h => hnm (by rw [← hl.out, ← hk.out, h]))
    replace hlk := box hlk
    replace hnm := box hnm
    go_enter Try.func13, Try.ntmps13
    go_wp2
    go_ret
    exact ⟨by rw [hlk.out]; rfl, Below.refl _ _⟩
end Go.Proofs.Ytcnjnkkdidpjiaa

namespace Go.Proofs.Ytcnjnkkdidpjiaa
open Go.RowKit

section
variable {P : Program} {o : Oper} {a : Act}
theorem yi_run {S : World → Prop} {ops : Array Oper} {v : Value} (hw : Region.wanted o (yielded ops a.tmps) = true) (h : ∀ w, S w → (execOp a.eval o).run P w = .ok (.value v) w) : YieldsIf P ops S o v a := .inl ⟨hw, h⟩
theorem yi_ix {S : World → Prop} {ops : Array Oper} (hw : Region.wanted o (yielded ops a.tmps) = true) {t e : TypeId} {size bytes : Nat} {z : Value} (T : SlT P t e size bytes z) {A : Option Addr} {n k : Nat} {j : Int} (hA : 0 < n → A = some (A.getD default))
    (ho : IsIx o a t A n j) (hj : j = (k : Int)) (hk : k < n) : YieldsIf P ops S o (.pointer (some (atp A (k * size)))) a := by
  refine yi_run hw fun w _ => ?_
  obtain ⟨x, i, c, kd, ho, hx, hi⟩ := ho
  obtain ⟨i', hi', _, hsz, _⟩ := info_parts T.info
  have hA := hA (by omega)
  have he : P.elem t = e := by simp [Program.elem, T.und]
  subst hj
  unfold execOp
  have hrun := run_indexAt_slice (P := P) w t (A.getD default) n c kd (k : Int) (by rw [he]; exact T.und)
  rw [if_pos ⟨by omega, by omega⟩] at hrun
  simp only [ho, hx, hi]
  rw [hA]
  simp [hrun, he, sizeOf, typeInfo, hi', hsz, atp]
theorem yi_ld {S : World → Prop} {ops : Array Oper} (hw : Region.wanted o (yielded ops a.tmps) = true) {S' : World → Nat → Prop} {A : Option Addr} {n size : Nat} {xs : List Value} (hr : ∀ w, S w → Rd w (S' w) A size n xs) {e : TypeId} {j : Nat} {u : Value} {d : TypeDesc} (hu : P.underlying e = some d) (hd : aggT d = false)
    (ho : IsLd o a e (atp A j)) (hj : xs[j]? = some u) : YieldsIf P ops S o u a := by
  refine yi_run hw fun w hS => ?_
  obtain ⟨x, ho, hx⟩ := ho
  have hc := (hr w hS).cell j u hj
  have hagg := run_isAgg hu w
  rw [hd] at hagg
  unfold execOp
  simp [ho, hx, Instr.loadAt, Instr.sureAddr, loadVar, hagg, hc]
theorem yi_ldA {S : World → Prop} {ops : Array Oper} (hw : Region.wanted o (yielded ops a.tmps) = true) {S' : World → Nat → Prop} {A : Option Addr} {n size : Nat} {xs : List Value} (hr : ∀ w, S w → Rd w (S' w) A size n xs) {e : TypeId} {j : Nat} {d : TypeDesc} (hu : P.underlying e = some d) (hd : aggT d = true)
    (ho : IsLd o a e (atp A j)) {ds : List Value} (hs : (P.info? e).map (·.size) = some ds.length) (hc : (xs.drop j).take ds.length = ds) : YieldsIf P ops S o (.agg ds.toArray) a := by
  refine yi_run hw fun w hS => ?_
  obtain ⟨x, ho, hx⟩ := ho
  have hagg := run_isAgg hu w
  rw [hd] at hagg
  obtain ⟨i, hi, hsz⟩ := Option.map_eq_some_iff.1 hs
  have hl : (loadCells (atp A j) ds.length).run P w = .ok ds.toArray w := run_loadCells_list (P := P) w (atp A j) ds (fun q v hv => by
    unfold atp
    rw [add_add]
    refine (hr w hS).cell (j + q) v ?_
    rw [← hc, List.getElem?_take] at hv
    split at hv
    · rw [List.getElem?_drop] at hv; exact hv
    · cases hv)
  unfold execOp
  simp [ho, hx, Instr.loadAt, Instr.sureAddr, loadVar, hagg, sizeOf, typeInfo, hi, hsz, hl]
/-- Two arrays of bytes compared: they differ? -/
theorem yi_neB {S : World → Prop} {ops : Array Oper} (hw : Region.wanted o (yielded ops a.tmps) = true) {t e : TypeId} {n : Nat} (ht : P.underlying t = some (.array n e)) (he : P.underlying e = some (.int .u8)) (hs : (P.info? e).map (·.size) = some 1) (hg : P.eqGuardType P.depth t = false) {l m : List UInt8} (hl : l.length = n) (hm : m.length = n)
    {x y : Operand} {ty : TypeId} (ho : o.op = .binOp .neq t x y ty) (hx : a.eval x = .agg (l.map bv).toArray) (hy : a.eval y = .agg (m.map bv).toArray) {r : Bool} (hr : (l == m) = r) : YieldsIf P ops S o (.bool (!r)) a := by
  subst hr
  refine yi_run hw fun w _ => ?_
  have h1 := run_eqGuard_agg (P := P) w .neq t x y (l.map bv).toArray (m.map bv).toArray hg
  have h2 := run_neq_struct (P := P) w t (l.map bv).toArray (m.map bv).toArray
  have h3 := run_eqBytes (P := P) ht he hs l m hl hm 9998 w
  unfold execOp
  simp only [ho, hx, hy, Sem.run_bind, h1, h2, h3, Result.andThen_ok, Sem.run_pure]
end
end Go.Proofs.Ytcnjnkkdidpjiaa

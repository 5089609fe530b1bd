/-
  Laws over a frame of known blocks, for regions that draw their order: a call met by its contract; entries picked out. No program is named here.
-/
import Derived.Test.YtdekogmegdhjoaaDoorFrP
import Derived.Deep.RegionHeld3
namespace Go.Proofs.YtdekogmegdhjoaaDoor
open Go.RowKit

section
variable {X : List Nat} {w0 w : World} {es : List Ent}
/-- Some of the entries. -/
theorem Fr.pick1 (h : Fr X w0 w es) {i : Nat} {e : Ent} (hi : es[i]? = some e) : Fr X w0 w [e] :=
  ⟨h.os, h.tape, h.output, h.size, h.block, fun j f hj => by match j, hj with | 0, hj => injection hj with hj; subst hj; exact h.holds i _ hi,
    fun j f hj => by match j, hj with | 0, hj => injection hj with hj; subst hj; exact h.fresh i _ hi,
    fun j k f f' hj hk hjk => by match j, k, hj, hk with | 0, 0, _, _ => exact absurd rfl hjk⟩
theorem Fr.pick2 (h : Fr X w0 w es) {i j : Nat} {e f : Ent} (hi : es[i]? = some e) (hj : es[j]? = some f) (hij : i ≠ j) : Fr X w0 w [e, f] :=
  (h.pick1 hj).push (h.holds i e hi) fun b hb => ⟨h.fresh i e hi b hb, fun k f' hk he => by
    match k, hk with
    | 0, hk =>
      injection hk with hk; subst hk
      rcases h.apart i j e f hi hj hij with h1 | h1
      · rw [h1] at hb; cases hb
      · exact h1 (hb.trans he.symm)⟩
theorem Fr.pick3 (h : Fr X w0 w es) {i j k : Nat} {e f f' : Ent} (hi : es[i]? = some e) (hj : es[j]? = some f) (hk : es[k]? = some f') (hij : i ≠ j) (hik : i ≠ k) (hjk : j ≠ k) : Fr X w0 w [e, f, f'] :=
  (h.pick2 hj hk hjk).push (h.holds i e hi) fun b hb => ⟨h.fresh i e hi b hb, fun q f'' hq he => by
    match q, hq with
    | 0, hq =>
      injection hq with hq; subst hq
      rcases h.apart i j e f hi hj hij with h1 | h1
      · rw [h1] at hb; cases hb
      · exact h1 (hb.trans he.symm)
    | 1, hq =>
      injection hq with hq; subst hq
      rcases h.apart i k e f' hi hk hik with h1 | h1
      · rw [h1] at hb; cases hb
      · exact h1 (hb.trans he.symm)⟩
/-- What an entry reads, apart from the bytes that another owns. -/
theorem Fr.rdNe (h : Fr X w0 w es) {i j b b' : Nat} {e e' : TypeId} {size n m c : Nat} {A : Option Addr} {xs : List Value} {v : Value} {l : List UInt8} (hi : es[i]? = some (.own b e size (.slice A n c) m xs)) (hj : es[j]? = some (.bytes b' e' v l)) (hij : i ≠ j) :
    Rd w (fun k => k < w.heap.size ∧ k ∉ Xof v) A size n xs := by
  have hr := h.rdOwn hi
  refine ⟨hr.len, hr.some_, fun hn => ⟨hr.inS hn, fun hm => ?_⟩, hr.cell⟩
  have hA := hr.some_ hn
  have hv := Xof_mem.1 hm
  rcases h.apart i j _ _ hi hj hij with h1 | h1
  · have h1 : (Value.slice A n c).ownBlock = none := h1
    rw [hA] at h1; cases h1
  · have h1 : (Value.slice A n c).ownBlock ≠ v.ownBlock := h1
    rw [hv, hA] at h1
    exact h1 rfl
end

section
variable {P : Program} {o : Oper} {a : Act} {w : World} {K : Act → World → Prop} {Q : Exit → Act → World → Prop}
/-- A call, met by its contract. -/
theorem wp_call {f : FuncId} {fn : Func} {args : Array Operand} {ts : Array TypeId} {vs : Array Value} (hf : P.funcs[f]? = some fn) (hb : fn.body.isNone = false) (hn : (fn.name == "runtime.NumGoroutine") = false)
    (ho : o.op = .call { callee := .value (.func f), args := args, argTypes := ts }) (hv : args.map a.eval = vs) {R : Ending → World → Prop} (hc : Calls P f vs w R) (k : ∀ e w', R e w' → ∃ v, e = .returned v ∧ K (a.put o.dst v) w') : o.wp P a w K Q := by
  have hrun : (execOp a.eval o).run P w = .ok (.enter f vs) w := by
    unfold execOp
    have hn' : ¬ fn.name = "runtime.NumGoroutine" := by simpa using hn
    have hb' : ¬ fn.body = none := by
      intro h
      rw [h] at hb
      cases hb
    simp only [ho, resolve, Act.eval, Deferred.ofValue, invoke, callFunc, Sem.run_bind, Sem.run_pure, Result.andThen_ok, run_program, hf, ← hv]
    simp [hn', hb']
  unfold Oper.wp
  rw [hrun, Oper.upon_enter]
  refine hc.mono fun e w' hR => ?_
  obtain ⟨v, rfl, hK⟩ := k e w' hR
  exact hK
/-- Two arrays of bytes compared. -/
theorem wp_eqB {t e : TypeId} {n : Nat} (ht : P.underlying t = some (.array n e)) (he : P.underlying e = some (.int .u8)) (hs : (P.info? e).map (·.size) = some 1) (hg : P.eqGuardType P.depth t = false) {l m : List UInt8} (hl : l.length = n) (hm : m.length = n)
    {x y : Operand} {ty : TypeId} (ho : o.op = .binOp .eql t x y ty) (hx : a.eval x = .agg (l.map bv).toArray) (hy : a.eval y = .agg (m.map bv).toArray) (k : K (a.put o.dst (.bool (l == m))) w) : o.wp P a w K Q := by
  refine wp_run (v := .bool (l == m)) (w' := w) ?_ k
  have h1 := run_eqGuard_agg (P := P) w .eql t x y (l.map bv).toArray (m.map bv).toArray hg
  have h2 := run_eql_struct (P := P) w t (l.map bv).toArray (m.map bv).toArray
  have h3 := run_eqBytes (P := P) ht he hs l m hl hm 9998 w
  unfold execOp
  simp only [ho, hx, hy, Sem.run_bind, h1, h2, h3, Result.andThen_ok, Sem.run_pure]
theorem wp_neB {t e : TypeId} {n : Nat} (ht : P.underlying t = some (.array n e)) (he : P.underlying e = some (.int .u8)) (hs : (P.info? e).map (·.size) = some 1) (hg : P.eqGuardType P.depth t = false) {l m : List UInt8} (hl : l.length = n) (hm : m.length = n)
    {x y : Operand} {ty : TypeId} (ho : o.op = .binOp .neq t x y ty) (hx : a.eval x = .agg (l.map bv).toArray) (hy : a.eval y = .agg (m.map bv).toArray) (k : K (a.put o.dst (.bool (!(l == m)))) w) : o.wp P a w K Q := by
  refine wp_run (v := .bool (!(l == m))) (w' := w) ?_ k
  have h1 := run_eqGuard_agg (P := P) w .neq t x y (l.map bv).toArray (m.map bv).toArray hg
  have h2 := run_neq_struct (P := P) w t (l.map bv).toArray (m.map bv).toArray
  have h3 := run_eqBytes (P := P) ht he hs l m hl hm 9998 w
  unfold execOp
  simp only [ho, hx, hy, Sem.run_bind, h1, h2, h3, Result.andThen_ok, Sem.run_pure]
end
end Go.Proofs.YtdekogmegdhjoaaDoor

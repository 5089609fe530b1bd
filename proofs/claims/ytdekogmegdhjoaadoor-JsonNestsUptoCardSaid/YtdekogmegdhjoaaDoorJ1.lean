/-
  Layer 6: the program's reader: its words; faults; the next byte.
-/
import Derived.Test.YtdekogmegdhjoaaDoorTy
import Derived.Test.YtdekogmegdhjoaaDoorJSpec
import Derived.Test.YtdekogmegdhjoaaDoorFrP
import Derived.Test.YtdekogmegdhjoaaDoorFr7
import Derived.Deep.QuietTactic
import Derived.BigQuiet
namespace Go.Proofs.YtdekogmegdhjoaaDoor
open Go.RowKit

/-- The reader's cells: the bytes, the place, how many values. -/
def rdrL (A : Option Addr) (n c : Nat) (p m : Nat) : List Value := [.slice A n c, .int .i64 (p : Int), .int .i64 (m : Int)]
/-- A fault that goes up. -/
def flt (x : Nat × Nat) : Ending := .panicked [{ v := .iface 59 (.agg #[.int .i64 (x.1 : Int), .int .i64 (x.2 : Int)]), recovered := false }]

set_option maxRecDepth 20000 in
theorem fail_any (v : Value) (p e : Nat) (w : World) :
    Calls Tryd.prog 27 #[v, .int .i64 (p : Int), .int .i64 (e : Int)] w fun x w' => x = flt (p, e) ∧ w = w' := by
  go_enter Tryd.func27, Tryd.ntmps27
  go_wp2
  exact ⟨rfl, rfl, rfl⟩

/-- How a reading ends. -/
def jEnd {α : Type} (r : JR α) (f : α → Ending) : Ending :=
  match r with
  | .ok a => f a
  | .error x => flt x
section
variable {w : World} {g : Nat} {A : Option Addr} {n c p m : Nat}
theorem rdr_b (hh : w.heap[g]? = some (.cells (rdrL A n c p m).toArray 63 (0, 0))) : w.cell? ⟨g, 0, none⟩ = some (.slice A n c) := by
  rw [cell_of_row w g 0 _ _ (0, 0) hh]; rfl
theorem rdr_p (hh : w.heap[g]? = some (.cells (rdrL A n c p m).toArray 63 (0, 0))) : w.cell? ⟨g, 1, none⟩ = some (.int .i64 (p : Int)) := by
  rw [cell_of_row w g 1 _ _ (0, 0) hh]; rfl
theorem rdr_m (hh : w.heap[g]? = some (.cells (rdrL A n c p m).toArray 63 (0, 0))) : w.cell? ⟨g, 2, none⟩ = some (.int .i64 (m : Int)) := by
  rw [cell_of_row w g 2 _ _ (0, 0) hh]; rfl
end

set_option maxRecDepth 20000 in
set_option maxHeartbeats 800000 in
theorem next_any (g : Nat) (A : Option Addr) (n c p m : Nat) (b : List UInt8) (w : World) (S : Nat → Prop) (hh : w.heap[g]? = some (.cells (rdrL A n c p m).toArray 63 (0, 0))) (hr : Rd w S A 1 n (b.map bv)) :
    Calls Tryd.prog 36 #[.pointer (some ⟨g, 0, none⟩)] w fun e w' => e = jEnd (jNext b p) (fun c => .returned (bv c)) ∧ ∃ k, w' = w.drewN k := by
  have hl := hr.bytes_len
  have h0 := rdr_b hh
  have h1 := rdr_p hh
  clear hh
  by_cases hlt : p < n
  · obtain ⟨ad, x, hA, hx, hcx⟩ := hr.atB hlt
    have hj : jNext b p = .ok x := by unfold jNext; rw [hx]
    rw [hj]
    replace hx := box hx
    clear hr
    subst hA
    go_enter Tryd.func36, Tryd.ntmps36
    go_wp2
    go_quiet (fail)
    go_wp2
    go_quiet (fail)
    go_wp2
    go_ret
    exact ⟨rfl, _, World.drewN_drewN _ _ _⟩
  · have hj : jNext b p = .error (n, 9) := by unfold jNext; rw [List.getElem?_eq_none (by omega), hl]
    rw [hj]
    have hfl := box (fun v w => fail_any v n 9 w)
    go_enter Tryd.func36, Tryd.ntmps36
    go_wp2
    go_quiet (fail)
    go_wp2_with fail
    refine (hfl.out _ _).mono ?_
    rintro e w1 ⟨rfl, rfl⟩
    dsimp only [flt]
    go_wp2
    exact ⟨rfl, rfl, _, rfl⟩

section
variable {g : Nat} {A : Option Addr} {n c p m : Nat} {b : List UInt8} {w : World} {S : Nat → Prop}
theorem next_q {x : UInt8} (hx : b[p]? = some x) (hh : w.heap[g]? = some (.cells (rdrL A n c p m).toArray 63 (0, 0))) (hr : Rd w S A 1 n (b.map bv)) (k : Nat) :
    Calls Tryd.prog 36 #[.pointer (some ⟨g, 0, none⟩)] (w.drewN k) fun e w' => e = .returned (.int .u8 (x.toNat : Int)) ∧ ∃ m, w' = w.drewN m := by
  refine (next_any g A n c p m b (w.drewN k) S hh ⟨hr.len, hr.some_, hr.inS, hr.cell⟩).mono ?_
  rintro e w' ⟨rfl, j, rfl⟩
  unfold jNext
  rw [hx]
  exact ⟨rfl, _, World.drewN_drewN _ _ _⟩
theorem next_x (hx : b[p]? = none) (hh : w.heap[g]? = some (.cells (rdrL A n c p m).toArray 63 (0, 0))) (hr : Rd w S A 1 n (b.map bv)) :
    Calls Tryd.prog 36 #[.pointer (some ⟨g, 0, none⟩)] w fun e w' => e = flt (b.length, 9) ∧ Below w.heap.size w w' := by
  refine (next_any g A n c p m b w S hh hr).mono ?_
  rintro e w' ⟨rfl, j, rfl⟩
  unfold jNext
  rw [hx]
  exact ⟨rfl, below_drewN (Below.refl _ _) _⟩
end
/-- A call that ends in a panic. -/
theorem wp_callP {P : Program} {o : Oper} {a : Act} {w : World} {K : Act → World → Prop} {Q : Exit → Act → World → Prop} {f : FuncId} {fn : Func} {args : Array Operand} {ts : Array TypeId} {vs : Array Value} (hf : P.funcs[f]? = some fn) (hb : fn.body.isNone = false) (hn : (fn.name == "runtime.NumGoroutine") = false)
    (ho : o.op = .call { callee := .value (.func f), args := args, argTypes := ts }) (hv : args.map a.eval = vs) {R : Ending → World → Prop} (hc : Calls P f vs w R) (k : ∀ e w', R e w' → ∃ ch, e = .panicked ch ∧ Q (.panic ch) a w') : o.wp P a w K Q := by
  have hrun : (execOp a.eval o).run P w = .ok (.enter f vs) w := by
    unfold execOp
    have hn' : ¬ fn.name = "runtime.NumGoroutine" := by simpa using hn
    have hb' : ¬ fn.body = none := by
      intro h
      rw [h] at hb
      cases hb
    simp only [ho, resolve, Act.eval, Deferred.ofValue, invoke, callFunc, Sem.run_bind, Sem.run_pure, Result.andThen_ok, run_program, hf, ← hv]
    simp [hn', hb']
  unfold Oper.wp
  rw [hrun, Oper.upon_enter]
  refine hc.mono fun e w' hR => ?_
  obtain ⟨v, rfl, hK⟩ := k e w' hR
  exact hK
end Go.Proofs.YtdekogmegdhjoaaDoor

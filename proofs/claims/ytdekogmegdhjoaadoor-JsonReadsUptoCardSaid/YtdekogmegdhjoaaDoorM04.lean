/-
  Regions that draw their order and only read: the place of an element, its cell, its cells. Texts are compared. No program is named here.
  Layer 6: the program's reader: its words; faults; the next byte.
  Steps through regions that draw their order, in few words. No program is named here.
  Layer 6: the program's reader: blanks, words.
  Layer 6: the program's reader: words.
  Layer 6: the program's reader: four digits of an escape.
  Layer 6: the program's reader: what a backslash says.
-/
import Derived.Test.YtdekogmegdhjoaaDoorM03
import Derived.Test.YtdekogmegdhjoaaDoorM01
import Derived.Deep.QuietTactic
import Derived.BigQuiet
import Derived.Deep.LoopGhost
import Derived.Deep.DeepCutAuto
import Derived.Laws.DeepBits32
namespace Go.Proofs.YtdekogmegdhjoaaDoor
open Go.RowKit

section
variable {P : Program} {o : Oper} {a : Act}
theorem yi_run {S : World → Prop} {ops : Array Oper} {v : Value} (hw : Region.wanted o (yielded ops a.tmps) = true) (h : ∀ w, S w → (execOp a.eval o).run P w = .ok (.value v) w) : YieldsIf P ops S o v a := .inl ⟨hw, h⟩
theorem yi_ix {S : World → Prop} {ops : Array Oper} (hw : Region.wanted o (yielded ops a.tmps) = true) {t e : TypeId} {size bytes : Nat} {z : Value} (T : SlT P t e size bytes z) {A : Option Addr} {n k : Nat} {j : Int} (hA : 0 < n → A = some (A.getD default))
    (ho : IsIx o a t A n j) (hj : j = (k : Int)) (hk : k < n) : YieldsIf P ops S o (.pointer (some (atp A (k * size)))) a := by
  refine yi_run hw fun w _ => ?_
  obtain ⟨x, i, c, kd, ho, hx, hi⟩ := ho
  obtain ⟨i', hi', _, hsz, _⟩ := info_parts T.info
  have hA := hA (by omega)
  have he : P.elem t = e := by simp [Program.elem, T.und]
  subst hj
  unfold execOp
  have hrun := run_indexAt_slice (P := P) w t (A.getD default) n c kd (k : Int) (by rw [he]; exact T.und)
  rw [if_pos ⟨by omega, by omega⟩] at hrun
  simp only [ho, hx, hi]
  rw [hA]
  simp [hrun, he, sizeOf, typeInfo, hi', hsz, atp]
theorem yi_ld {S : World → Prop} {ops : Array Oper} (hw : Region.wanted o (yielded ops a.tmps) = true) {S' : World → Nat → Prop} {A : Option Addr} {n size : Nat} {xs : List Value} (hr : ∀ w, S w → Rd w (S' w) A size n xs) {e : TypeId} {j : Nat} {u : Value} {d : TypeDesc} (hu : P.underlying e = some d) (hd : aggT d = false)
    (ho : IsLd o a e (atp A j)) (hj : xs[j]? = some u) : YieldsIf P ops S o u a := by
  refine yi_run hw fun w hS => ?_
  obtain ⟨x, ho, hx⟩ := ho
  have hc := (hr w hS).cell j u hj
  have hagg := run_isAgg hu w
  rw [hd] at hagg
  unfold execOp
  simp [ho, hx, Instr.loadAt, Instr.sureAddr, loadVar, hagg, hc]
theorem yi_ldA {S : World → Prop} {ops : Array Oper} (hw : Region.wanted o (yielded ops a.tmps) = true) {S' : World → Nat → Prop} {A : Option Addr} {n size : Nat} {xs : List Value} (hr : ∀ w, S w → Rd w (S' w) A size n xs) {e : TypeId} {j : Nat} {d : TypeDesc} (hu : P.underlying e = some d) (hd : aggT d = true)
    (ho : IsLd o a e (atp A j)) {ds : List Value} (hs : (P.info? e).map (·.size) = some ds.length) (hc : (xs.drop j).take ds.length = ds) : YieldsIf P ops S o (.agg ds.toArray) a := by
  refine yi_run hw fun w hS => ?_
  obtain ⟨x, ho, hx⟩ := ho
  have hagg := run_isAgg hu w
  rw [hd] at hagg
  obtain ⟨i, hi, hsz⟩ := Option.map_eq_some_iff.1 hs
  have hl : (loadCells (atp A j) ds.length).run P w = .ok ds.toArray w := run_loadCells_list (P := P) w (atp A j) ds (fun q v hv => by
    unfold atp
    rw [add_add]
    refine (hr w hS).cell (j + q) v ?_
    rw [← hc, List.getElem?_take] at hv
    split at hv
    · rw [List.getElem?_drop] at hv; exact hv
    · cases hv)
  unfold execOp
  simp [ho, hx, Instr.loadAt, Instr.sureAddr, loadVar, hagg, sizeOf, typeInfo, hi, hsz, hl]
/-- Two arrays of bytes compared: they differ? -/
theorem yi_neB {S : World → Prop} {ops : Array Oper} (hw : Region.wanted o (yielded ops a.tmps) = true) {t e : TypeId} {n : Nat} (ht : P.underlying t = some (.array n e)) (he : P.underlying e = some (.int .u8)) (hs : (P.info? e).map (·.size) = some 1) (hg : P.eqGuardType P.depth t = false) {l m : List UInt8} (hl : l.length = n) (hm : m.length = n)
    {x y : Operand} {ty : TypeId} (ho : o.op = .binOp .neq t x y ty) (hx : a.eval x = .agg (l.map bv).toArray) (hy : a.eval y = .agg (m.map bv).toArray) {r : Bool} (hr : (l == m) = r) : YieldsIf P ops S o (.bool (!r)) a := by
  subst hr
  refine yi_run hw fun w _ => ?_
  have h1 := run_eqGuard_agg (P := P) w .neq t x y (l.map bv).toArray (m.map bv).toArray hg
  have h2 := run_neq_struct (P := P) w t (l.map bv).toArray (m.map bv).toArray
  have h3 := run_eqBytes (P := P) ht he hs l m hl hm 9998 w
  unfold execOp
  simp only [ho, hx, hy, Sem.run_bind, h1, h2, h3, Result.andThen_ok, Sem.run_pure]
end
end Go.Proofs.YtdekogmegdhjoaaDoor

namespace Go.Proofs.YtdekogmegdhjoaaDoor
open Go.RowKit

/-- The reader's cells: the bytes, the place, how many values. -/
def rdrL (A : Option Addr) (n c : Nat) (p m : Nat) : List Value := [.slice A n c, .int .i64 (p : Int), .int .i64 (m : Int)]
/-- A fault that goes up. -/
def flt (x : Nat × Nat) : Ending := .panicked [{ v := .iface 59 (.agg #[.int .i64 (x.1 : Int), .int .i64 (x.2 : Int)]), recovered := false }]

set_option maxRecDepth 20000 in
theorem fail_any (v : Value) (p e : Nat) (w : World) :
    Calls Tryd.prog 27 #[v, .int .i64 (p : Int), .int .i64 (e : Int)] w fun x w' => x = flt (p, e) ∧ w = w' := by
  go_enter Tryd.func27, Tryd.ntmps27
  go_wp2
  exact ⟨rfl, rfl, rfl⟩

/-- How a reading ends. -/
def jEnd {α : Type} (r : JR α) (f : α → Ending) : Ending :=
  match r with
  | .ok a => f a
  | .error x => flt x
section
variable {w : World} {g : Nat} {A : Option Addr} {n c p m : Nat}
theorem rdr_b (hh : w.heap[g]? = some (.cells (rdrL A n c p m).toArray 63 (0, 0))) : w.cell? ⟨g, 0, none⟩ = some (.slice A n c) := by
  rw [cell_of_row w g 0 _ _ (0, 0) hh]; rfl
theorem rdr_p (hh : w.heap[g]? = some (.cells (rdrL A n c p m).toArray 63 (0, 0))) : w.cell? ⟨g, 1, none⟩ = some (.int .i64 (p : Int)) := by
  rw [cell_of_row w g 1 _ _ (0, 0) hh]; rfl
theorem rdr_m (hh : w.heap[g]? = some (.cells (rdrL A n c p m).toArray 63 (0, 0))) : w.cell? ⟨g, 2, none⟩ = some (.int .i64 (m : Int)) := by
  rw [cell_of_row w g 2 _ _ (0, 0) hh]; rfl
end

set_option maxRecDepth 20000 in
set_option maxHeartbeats 800000 in
theorem next_any (g : Nat) (A : Option Addr) (n c p m : Nat) (b : List UInt8) (w : World) (S : Nat → Prop) (hh : w.heap[g]? = some (.cells (rdrL A n c p m).toArray 63 (0, 0))) (hr : Rd w S A 1 n (b.map bv)) :
    Calls Tryd.prog 36 #[.pointer (some ⟨g, 0, none⟩)] w fun e w' => e = jEnd (jNext b p) (fun c => .returned (bv c)) ∧ ∃ k, w' = w.drewN k := by
  have hl := hr.bytes_len
  have h0 := rdr_b hh
  have h1 := rdr_p hh
  clear hh
  by_cases hlt : p < n
  · obtain ⟨ad, x, hA, hx, hcx⟩ := hr.atB hlt
    have hj : jNext b p = .ok x := by unfold jNext; rw [hx]
    rw [hj]
    replace hx := box hx
    clear hr
    subst hA
    go_enter Tryd.func36, Tryd.ntmps36
    go_wp2
    go_quiet (fail)
    go_wp2
    go_quiet (fail)
    go_wp2
    go_ret
    exact ⟨rfl, _, World.drewN_drewN _ _ _⟩
  · have hj : jNext b p = .error (n, 9) := by unfold jNext; rw [List.getElem?_eq_none (by omega), hl]
    rw [hj]
    have hfl := box (fun v w => fail_any v n 9 w)
    go_enter Tryd.func36, Tryd.ntmps36
    go_wp2
    go_quiet (fail)
    go_wp2_with fail
    refine (hfl.out _ _).mono ?_
    rintro e w1 ⟨rfl, rfl⟩
    dsimp only [flt]
    go_wp2
    exact ⟨rfl, rfl, _, rfl⟩

section
variable {g : Nat} {A : Option Addr} {n c p m : Nat} {b : List UInt8} {w : World} {S : Nat → Prop}
theorem next_q {x : UInt8} (hx : b[p]? = some x) (hh : w.heap[g]? = some (.cells (rdrL A n c p m).toArray 63 (0, 0))) (hr : Rd w S A 1 n (b.map bv)) (k : Nat) :
    Calls Tryd.prog 36 #[.pointer (some ⟨g, 0, none⟩)] (w.drewN k) fun e w' => e = .returned (.int .u8 (x.toNat : Int)) ∧ ∃ m, w' = w.drewN m := by
  refine (next_any g A n c p m b (w.drewN k) S hh ⟨hr.len, hr.some_, hr.inS, hr.cell⟩).mono ?_
  rintro e w' ⟨rfl, j, rfl⟩
  unfold jNext
  rw [hx]
  exact ⟨rfl, _, World.drewN_drewN _ _ _⟩
theorem next_x (hx : b[p]? = none) (hh : w.heap[g]? = some (.cells (rdrL A n c p m).toArray 63 (0, 0))) (hr : Rd w S A 1 n (b.map bv)) :
    Calls Tryd.prog 36 #[.pointer (some ⟨g, 0, none⟩)] w fun e w' => e = flt (b.length, 9) ∧ Below w.heap.size w w' := by
  refine (next_any g A n c p m b w S hh hr).mono ?_
  rintro e w' ⟨rfl, j, rfl⟩
  unfold jNext
  rw [hx]
  exact ⟨rfl, below_drewN (Below.refl _ _) _⟩
end
/-- A call that ends in a panic. -/
theorem wp_callP {P : Program} {o : Oper} {a : Act} {w : World} {K : Act → World → Prop} {Q : Exit → Act → World → Prop} {f : FuncId} {fn : Func} {args : Array Operand} {ts : Array TypeId} {vs : Array Value} (hf : P.funcs[f]? = some fn) (hb : fn.body.isNone = false) (hn : (fn.name == "runtime.NumGoroutine") = false)
    (ho : o.op = .call { callee := .value (.func f), args := args, argTypes := ts }) (hv : args.map a.eval = vs) {R : Ending → World → Prop} (hc : Calls P f vs w R) (k : ∀ e w', R e w' → ∃ ch, e = .panicked ch ∧ Q (.panic ch) a w') : o.wp P a w K Q := by
  have hrun : (execOp a.eval o).run P w = .ok (.enter f vs) w := by
    unfold execOp
    have hn' : ¬ fn.name = "runtime.NumGoroutine" := by simpa using hn
    have hb' : ¬ fn.body = none := by
      intro h
      rw [h] at hb
      cases hb
    simp only [ho, resolve, Act.eval, Deferred.ofValue, invoke, callFunc, Sem.run_bind, Sem.run_pure, Result.andThen_ok, run_program, hf, ← hv]
    simp [hn', hb']
  unfold Oper.wp
  rw [hrun, Oper.upon_enter]
  refine hc.mono fun e w' hR => ?_
  obtain ⟨v, rfl, hK⟩ := k e w' hR
  exact hK
end Go.Proofs.YtdekogmegdhjoaaDoor

namespace Go.Proofs.YtdekogmegdhjoaaDoor
open Go.RowKit

section
variable {P : Program} {ops : Array Oper} {Q : Exit → Act → World → Prop} {md : Region.Mode} {S : World → Prop} {oi : Oper} {v : Value} {fuel : Nat} {listed : Array Bool} {a : Act} {w : World}
/-- What yields in every world. -/
theorem tkp (i : Nat) (hS : S w) (h : wpAnyH P md ops Q S fuel (listed.setIfInBounds i true) (a.put oi.dst v) w)
    (hi : ops[i]? = some oi := by first | (simp only [List.getElem?_toArray, List.getElem?_cons_zero]; rfl) | (simp only [List.getElem?_toArray, List.getElem?_cons_zero, List.getElem?_cons_succ]; rfl)) (hs : Region.noSelect ops = true := by kernel_rfl) (hf : Region.free md ops listed i = true := by kernel_rfl) (hr : (Region.ready md ops listed).contains i = true := by kernel_rfl)
    (hQ : ∀ c a w, Q (.panic c) (a.put oi.dst v) w → Q (.panic c) a w := by exact fun _ _ _ h => h) (hw : Region.wanted oi (yielded ops a.tmps) = true := by with_unfolding_all rfl)
    (hy : ∀ w, S w → (execOp a.eval oi).run P w = .ok (.value v) w := by intro w hSw; (try dsimp only at hSw); go_simp; try with_reducible rfl) : wpAnyH P md ops Q S (fuel + 1) listed a w :=
  wpAnyH_take hi hs hf hr hQ (.inl ⟨hw, hy⟩) hS h
/-- What is not wanted. -/
theorem tkn (i : Nat) (hS : S w) (h : wpAnyH P md ops Q S fuel (listed.setIfInBounds i true) (a.put oi.dst undef) w)
    (hi : ops[i]? = some oi := by first | (simp only [List.getElem?_toArray, List.getElem?_cons_zero]; rfl) | (simp only [List.getElem?_toArray, List.getElem?_cons_zero, List.getElem?_cons_succ]; rfl)) (hs : Region.noSelect ops = true := by kernel_rfl) (hf : Region.free md ops listed i = true := by kernel_rfl) (hr : (Region.ready md ops listed).contains i = true := by kernel_rfl)
    (hQ : ∀ c a w, Q (.panic c) (a.put oi.dst undef) w → Q (.panic c) a w := by exact fun _ _ _ h => h) (hw : Region.wanted oi (yielded ops a.tmps) = false := by with_unfolding_all rfl) : wpAnyH P md ops Q S (fuel + 1) listed a w :=
  wpAnyH_take hi hs hf hr hQ (.inr ⟨hw, rfl⟩) hS h
/-- What yields where S holds, by a proof. -/
theorem tky (i : Nat)
    (hi : ops[i]? = some oi := by first | (simp only [List.getElem?_toArray, List.getElem?_cons_zero]; rfl) | (simp only [List.getElem?_toArray, List.getElem?_cons_zero, List.getElem?_cons_succ]; rfl)) (hs : Region.noSelect ops = true := by kernel_rfl) (hf : Region.free md ops listed i = true := by kernel_rfl) (hr : (Region.ready md ops listed).contains i = true := by kernel_rfl)
    (y : YieldsIf P ops S oi v a) (s : S w) (h : wpAnyH P md ops Q S fuel (listed.setIfInBounds i true) (a.put oi.dst v) w)
    (hQ : ∀ c a w, Q (.panic c) (a.put oi.dst v) w → Q (.panic c) a w := by exact fun _ _ _ h => h) : wpAnyH P md ops Q S (fuel + 1) listed a w :=
  wpAnyH_take hi hs hf hr hQ y s h
/-- The one operation that comes up. -/
theorem rdy1 (i : Nat) {o : Oper} (h : ∀ K' : Act → World → Prop, Shut (∀ a w, S w → (S w → wpAnyH P md ops Q S fuel (listed.setIfInBounds i true) a w) → K' a w) → if Region.wanted o (yielded ops a.tmps) = true then Oper.wp P o a w K' Q else K' (a.put o.dst undef) w)
    (hr : Region.ready md ops listed = [i] := by kernel_rfl) (ho : ops[i]? = some o := by first | (simp only [List.getElem?_toArray, List.getElem?_cons_zero]; rfl) | (simp only [List.getElem?_toArray, List.getElem?_cons_zero, List.getElem?_cons_succ]; rfl)) : wpAnyH P md ops Q S (fuel + 1) listed a w :=
  wpAnyH_ready hr (by simp) (.cons ho h .nil)
end
end Go.Proofs.YtdekogmegdhjoaaDoor

namespace Go.Proofs.YtdekogmegdhjoaaDoor
open Go.RowKit

section
variable {w w' : World} {g B : Nat} {es : List Ent} {A : Option Addr} {size n c p m : Nat}
theorem Fr.rdB {xs : List Value} (hF : Fr [g] w w' es) (hg : B ≤ g) (hB : B ≤ w.heap.size) (hr : Rd w (· < B) A size n xs) : Rd w' (· < B) A size n xs :=
  ⟨hr.len, hr.some_, hr.inS, fun j u hu => by
    rw [← hr.cell j u hu]
    have hb := hr.inS (hr.pos_of hu)
    refine World.cell?_of_block (w := w) ?_
    rw [atp_block]
    exact hF.block _ (by omega) (by simp; omega)⟩
theorem rdrL_len : (rdrL A n c p m).length = 3 := rfl
theorem rdrL_at {v : Int} {q : Nat} (h : v = (q : Int)) : spl (rdrL A n c p m) 1 [.int .i64 v] = rdrL A n c q m := by subst h; rfl
theorem rdrL_it {v : Int} {q : Nat} (h : v = (q : Int)) : spl (rdrL A n c p m) 2 [.int .i64 v] = rdrL A n c p q := by subst h; rfl
end
theorem u8_ne {c d : UInt8} (h : c ≠ d) : ((c.toNat : Int) == (d.toNat : Int)) = false := by
  rw [beq_eq_false_iff_ne]; intro he; exact h (UInt8.toNat_inj.1 (by omega))
theorem u8_ne' {c d : UInt8} (h : c ≠ d) : ((c.toNat : Int) != (d.toNat : Int)) = true := by rw [bne, u8_ne h]; rfl
theorem jBlanks_go {b : List UInt8} {p : Nat} {x : UInt8} (hx : b[p]? = some x) (h : jBlank x = true) : jBlanks b p = jBlanks b (p + 1) := by
  have hp := (List.getElem?_eq_some_iff.1 hx).1
  unfold jBlanks
  rw [List.drop_eq_getElem_cons hp, (List.getElem?_eq_some_iff.1 hx).2, List.takeWhile_cons, if_pos h, List.length_cons]
  omega
theorem jBlanks_stop {b : List UInt8} {p : Nat} {x : UInt8} (hx : b[p]? = some x) (h : jBlank x = false) : jBlanks b p = p := by
  have hp := (List.getElem?_eq_some_iff.1 hx).1
  unfold jBlanks
  rw [List.drop_eq_getElem_cons hp, (List.getElem?_eq_some_iff.1 hx).2, List.takeWhile_cons, if_neg (by rw [h]; decide)]
  rfl
theorem jBlanks_end {b : List UInt8} {p : Nat} (hx : b.length ≤ p) : jBlanks b p = p := by
  unfold jBlanks
  rw [List.drop_of_length_le hx]
  rfl
theorem jBlanks_le (b : List UInt8) {p : Nat} (h : p ≤ b.length) : jBlanks b p ≤ b.length := by
  have := (List.takeWhile_sublist jBlank (l := b.drop p)).length_le
  rw [List.length_drop] at this
  unfold jBlanks
  omega
theorem jBlanks_ge (b : List UInt8) (p : Nat) : p ≤ jBlanks b p := by unfold jBlanks; omega

set_option maxRecDepth 20000 in
set_option maxHeartbeats 3200000 in
theorem blanks_any (g : Nat) (A : Option Addr) (n c p m B : Nat) (b : List UInt8) (w : World) (hh : w.heap[g]? = some (.cells (rdrL A n c p m).toArray 63 (0, 0))) (hg : B ≤ g) (hB : B ≤ w.heap.size) (hn : n ≤ 140737488355000) (hp : p ≤ n) (hr : Rd w (· < B) A 1 n (b.map bv)) :
    Calls Tryd.prog 25 #[.pointer (some ⟨g, 0, none⟩)] w fun e w' => e = .returned (.tuple #[]) ∧ Fr [g] w w' [.blk g 63 (rdrL A n c (jBlanks b p) m)] := by
  have hl := box hr.bytes_len
  have hF0 := Fr.one hh
  clear hh
  go_enter Tryd.func25, Tryd.ntmps25
  go_wp2_with fail
  go_loopg [] (n - p) (fun k wr => ∃ p' : Nat, p' ≤ n ∧ Box (k = n - p') ∧ Box (jBlanks b p = jBlanks b p') ∧ Fr [g] w wr [.blk g 63 (rdrL A n c p' m)])
  case atStart => exact ⟨p, hp, box rfl, box rfl, hF0⟩
  case round =>
    obtain ⟨p', hp', hk, hj, hF⟩ := hrel
    clear hF0
    have h0 := rdr_b (hF.blk (i := 0) rfl)
    have h1 := rdr_p (hF.blk (i := 0) rfl)
    by_cases hlt : p' < n
    · obtain ⟨ad, x, hA, hx, hcx⟩ := (hF.rdB hg hB hr).atB hlt
      have hxb := x.toNat_lt
      clear hr
      subst hA
      by_cases hx0 : x = 32
      · subst hx0
        have hgo := box (jBlanks_go hx (by decide))
        replace hx := box hx
        go_wp2
        go_quiet (fail)
        have hFd := hF.drewN nq
        go_wp2_with (first | ((with_reducible refine lst (by with_unfolding_all rfl) (wp_fst0 hFd (by with_unfolding_all exact ⟨_, _, rfl, rfl, rfl⟩) (by kernel_rfl) rfl rfl (by rw [rdrL_len]; decide) (rdrL_at (v := (p' : Int) + 1) (q := p' + 1) (by omega)) ?_)); intro w2 hF2 hz2))
        go_roundg (n - (p' + 1))
        case rel => exact ⟨p' + 1, by omega, box rfl, box (hj.out.trans hgo.out), hF2⟩
        case measure => have := hk.out; omega
      · by_cases hx1 : x = 9
        · subst hx1
          have hgo := box (jBlanks_go hx (by decide))
          replace hx := box hx
          go_wp2
          go_quiet (fail)
          have hFd := hF.drewN nq
          go_wp2_with (first | ((with_reducible refine lst (by with_unfolding_all rfl) (wp_fst0 hFd (by with_unfolding_all exact ⟨_, _, rfl, rfl, rfl⟩) (by kernel_rfl) rfl rfl (by rw [rdrL_len]; decide) (rdrL_at (v := (p' : Int) + 1) (q := p' + 1) (by omega)) ?_)); intro w2 hF2 hz2))
          go_roundg (n - (p' + 1))
          case rel => exact ⟨p' + 1, by omega, box rfl, box (hj.out.trans hgo.out), hF2⟩
          case measure => have := hk.out; omega
        · by_cases hx2 : x = 10
          · subst hx2
            have hgo := box (jBlanks_go hx (by decide))
            replace hx := box hx
            go_wp2
            go_quiet (fail)
            have hFd := hF.drewN nq
            go_wp2_with (first | ((with_reducible refine lst (by with_unfolding_all rfl) (wp_fst0 hFd (by with_unfolding_all exact ⟨_, _, rfl, rfl, rfl⟩) (by kernel_rfl) rfl rfl (by rw [rdrL_len]; decide) (rdrL_at (v := (p' : Int) + 1) (q := p' + 1) (by omega)) ?_)); intro w2 hF2 hz2))
            go_roundg (n - (p' + 1))
            case rel => exact ⟨p' + 1, by omega, box rfl, box (hj.out.trans hgo.out), hF2⟩
            case measure => have := hk.out; omega
          · by_cases hx3 : x = 13
            · subst hx3
              have hgo := box (jBlanks_go hx (by decide))
              replace hx := box hx
              go_wp2
              go_quiet (fail)
              have hFd := hF.drewN nq
              go_wp2_with (first | ((with_reducible refine lst (by with_unfolding_all rfl) (wp_fst0 hFd (by with_unfolding_all exact ⟨_, _, rfl, rfl, rfl⟩) (by kernel_rfl) rfl rfl (by rw [rdrL_len]; decide) (rdrL_at (v := (p' : Int) + 1) (q := p' + 1) (by omega)) ?_)); intro w2 hF2 hz2))
              go_roundg (n - (p' + 1))
              case rel => exact ⟨p' + 1, by omega, box rfl, box (hj.out.trans hgo.out), hF2⟩
              case measure => have := hk.out; omega
            · have hst := box (jBlanks_stop hx (by simp [jBlank, hx0, hx1, hx2, hx3]))
              replace hx := box hx
              have hn0 : ((x.toNat : Int) == 32) = false := u8_ne hx0
              have hn1 : ((x.toNat : Int) == 9) = false := u8_ne hx1
              have hn2 : ((x.toNat : Int) == 10) = false := u8_ne hx2
              have hn3 : ((x.toNat : Int) == 13) = false := u8_ne hx3
              clear hx0 hx1 hx2 hx3
              go_wp2
              go_quiet (fail)
              have hFd := hF.drewN nq
              go_wp2
              go_end0
              rw [hj.out, hst.out]
              exact ⟨rfl, hFd⟩
    · have hst := box (jBlanks_end (b := b) (p := p') (by have := hl.out; omega))
      go_wp2
      go_quiet (fail)
      have hFd := hF.drewN nq
      go_wp2
      go_end0
      rw [hj.out, hst.out]
      exact ⟨rfl, hFd⟩
end Go.Proofs.YtdekogmegdhjoaaDoor

namespace Go.Proofs.YtdekogmegdhjoaaDoor
open Go.RowKit

/-- How a reading ends: what is told, and the reader; or a fault, and nothing but the reader and what is new has changed. -/
def JPost {α : Type} (w : World) (g : Nat) (r : JR α) (ret : α → Ending) (st : α → List Value) (e : Ending) (w' : World) : Prop :=
  match r with
  | .ok a => e = ret a ∧ Fr [g] w w' [.blk g 63 (st a)]
  | .error x => e = flt x ∧ w.grownBy w' (some g)
theorem jWord_le {b : List UInt8} : ∀ {l : List UInt8} {p q : Nat}, jWord b l p = .ok q → q = p + l.length ∧ (l = [] ∨ q ≤ b.length)
  | [], p, q, h => by injection h with h; subst h; exact ⟨rfl, .inl rfl⟩
  | c :: l, p, q, h => by
    unfold jWord at h
    cases hx : b[p]? with
    | none => rw [hx] at h; cases h
    | some x =>
      rw [hx] at h
      simp only [] at h
      split at h
      · obtain ⟨h1, h2⟩ := jWord_le h
        have hp := (List.getElem?_eq_some_iff.1 hx).1
        refine ⟨by rw [h1, List.length_cons]; omega, .inr ?_⟩
        rcases h2 with rfl | h2
        · rw [h1, List.length_nil]; omega
        · exact h2
      · cases h

set_option maxRecDepth 20000 in
set_option maxHeartbeats 3200000 in
theorem word_any (g : Nat) (A : Option Addr) (n c p m B : Nat) (b : List UInt8) (s : ByteArray) (w : World) (hh : w.heap[g]? = some (.cells (rdrL A n c p m).toArray 63 (0, 0))) (hg : B ≤ g) (hB : B ≤ w.heap.size) (hn : n ≤ 140737488355000) (hp : p ≤ n) (hs : s.size ≤ 1000) (hr : Rd w (· < B) A 1 n (b.map bv)) :
    Calls Tryd.prog 37 #[.pointer (some ⟨g, 0, none⟩), .string s] w (JPost w g (jWord b s.data.toList p) (fun _ => .returned (.tuple #[])) (fun q => rdrL A n c q m)) := by
  have hl := box hr.bytes_len
  have hF0 := Fr.one hh
  clear hh
  go_enter Tryd.func37, Tryd.ntmps37
  go_wp2_with fail
  go_loopg [7] s.size (fun k i wr => ∃ j p' : Nat, j ≤ s.size ∧ Box (k = s.size - j) ∧ i = .int .i64 (j : Int) ∧ p' ≤ n ∧ Box (jWord b s.data.toList p = jWord b (s.data.toList.drop j) p') ∧ Fr [g] w wr [.blk g 63 (rdrL A n c p' m)])
  case atStart => exact ⟨0, p, by omega, box rfl, rfl, hp, box rfl, hF0⟩
  case round =>
    obtain ⟨j, p', hj, hk, rfl, hpj, hw, hF⟩ := hrel
    clear hF0
    by_cases hlt : j < s.size
    · obtain ⟨y, hy⟩ : ∃ y, s.data.toList[j]? = some y := ⟨s.data.toList[j]'hlt, by simp⟩
      have hdr : s.data.toList.drop j = y :: s.data.toList.drop (j + 1) := by
        rw [List.drop_eq_getElem_cons (by exact hlt), (List.getElem?_eq_some_iff.1 hy).2]
      have hyb := y.toNat_lt
      cases hx : b[p']? with
      | some x =>
        have hxb := x.toNat_lt
        have hnx := box (next_q hx (hF.blk (i := 0) rfl) (hF.rdB hg hB hr))
        have hplt := (List.getElem?_eq_some_iff.1 hx).1
        rw [hl.out] at hplt
        have hsj : s[j] = y := (List.getElem?_eq_some_iff.1 hy).2
        by_cases hxy : x = y
        · have hq : ((x.toNat : Int) != (y.toNat : Int)) = false := by rw [hxy]; simp
          have hgo : Box (jWord b s.data.toList p = jWord b (s.data.toList.drop (j + 1)) (p' + 1)) := box (by
            rw [hw.out, hdr, jWord, hx]; simp only []; rw [if_pos hxy])
          replace hx := box hx
          replace hxy := box hxy
          clear hy hdr
          go_wp2
          go_quiet (exact hnx.out _)
          have hFd := hF.drewN nq
          have h1 := rdr_p (hFd.blk (i := 0) rfl)
          go_wp2_with (first | ((with_reducible refine lst (by with_unfolding_all rfl) (wp_fst0 hFd (by with_unfolding_all exact ⟨_, _, rfl, rfl, rfl⟩) (by kernel_rfl) rfl rfl (by rw [rdrL_len]; decide) (rdrL_at (v := (p' : Int) + 1) (q := p' + 1) (by omega)) ?_)); intro w2 hF2 hz2))
          go_roundg (s.size - (j + 1))
          case rel => exact ⟨j + 1, p' + 1, by omega, box rfl, by go_num, by omega, hgo, hF2⟩
          case measure => have := hk.out; omega
        · have hq : ((x.toNat : Int) != (y.toNat : Int)) = true := by
            rw [bne_iff_ne]; intro h; exact hxy (UInt8.toNat_inj.1 (by omega))
          have hend : Box (jWord b s.data.toList p = .error (p', 10)) := box (by
            rw [hw.out, hdr, jWord, hx]; simp only []; rw [if_neg hxy])
          replace hx := box hx
          replace hxy := box hxy
          clear hy hdr
          go_wp2
          go_quiet (exact hnx.out _)
          have hFd := hF.drewN nq
          have h1 := rdr_p (hFd.blk (i := 0) rfl)
          have hfl := box (fun v w => fail_any v p' 10 w)
          go_wp2_with fail
          refine (hfl.out _ _).mono ?_
          rintro e w2 ⟨rfl, rfl⟩
          dsimp only [flt]
          go_wp2
          exact ⟨rfl, by unfold JPost; rw [hend.out]; exact ⟨rfl, hFd.grown⟩⟩
      | none =>
        have hend : Box (jWord b s.data.toList p = .error (n, 9)) := box (by
          rw [hw.out, hdr, jWord, hx, hl.out])
        have hnx := box (fun w' (hF : Fr [g] w w' [.blk g 63 (rdrL A n c p' m)]) => next_x hx (hF.blk (i := 0) rfl) (hF.rdB hg hB hr))
        rw [hl.out] at hnx
        replace hx := box hx
        clear hy hdr
        go_wp2
        have hFd := hF.drew
        refine wp_region_held (S := fun _ => True) (by kernel_rfl) ?_
        change wpAnyH _ _ _ _ _ _ _ _ (World.drew _)
        refine tkp 0 trivial ?_
        (try simp only [Act.put, List.setIfInBounds_toArray, List.set_cons_zero, List.set_cons_succ])
        refine tkp 2 trivial ?_
        (try simp only [Act.put, List.setIfInBounds_toArray, List.set_cons_zero, List.set_cons_succ])
        refine tkp 3 trivial ?_
        (try simp only [Act.put, List.setIfInBounds_toArray, List.set_cons_zero, List.set_cons_succ])
        refine tkp 4 trivial ?_
        (try simp only [Act.put, List.setIfInBounds_toArray, List.set_cons_zero, List.set_cons_succ])
        refine rdy1 1 (fun K hK => ?_)
        refine stp (by with_unfolding_all rfl) (wp_callP Tryd.func36 rfl (by with_unfolding_all rfl) (by with_unfolding_all rfl) (by with_unfolding_all rfl) (hnx.out _ hFd) ?_)
        rintro e w11 ⟨rfl, hb11⟩
        refine ⟨_, rfl, ?_⟩
        have hF11 := hFd.call hb11
        (try simp only [Exit.inBlock, Exit.then])
        exact ⟨rfl, by unfold JPost; rw [hend.out]; exact ⟨rfl, hF11.grown⟩⟩
    · have hend : Box (jWord b s.data.toList p = .ok p') := box (by
        rw [hw.out, List.drop_of_length_le (by rw [str_len]; omega), jWord])
      go_wp2
      go_end0
      unfold JPost
      rw [hend.out]
      exact ⟨rfl, hF⟩
end Go.Proofs.YtdekogmegdhjoaaDoor

namespace Go.Proofs.YtdekogmegdhjoaaDoor
open Go.RowKit

theorem hex_or (N d : Nat) (hN : N < 65536) (hd : d < 16) : bits BinOp.or IntKind.i32 ((N : Int) * 16) (d : Int) = ((16 * N + d : Nat) : Int) := by
  rw [show ((N : Int) * 16) = ((N * 16 : Nat) : Int) by push_cast; rfl]
  show IntKind.i32.wrap ((BitVec.ofInt 32 ((N * 16 : Nat) : Int) ||| BitVec.ofInt 32 (d : Int)).toNat : Int) = _
  have h3 : N * 16 ||| d = 16 * N + d := by
    rw [Nat.mul_comm N 16]
    exact (Nat.two_pow_add_eq_or_of_lt (i := 4) (by omega) N).symm
  rw [BitVec.toNat_or, ofInt_u32 _ (by omega), ofInt_u32 d (by omega), h3]
  exact wrap_i32_small _ (by omega) (by omega)
theorem jUnit_lt {b : List UInt8} {start : Nat} : ∀ {k N p x : Nat} {j : Nat}, N < 16 ^ j → jUnit b start k N p = .ok x → x < 16 ^ (j + k) ∧ (k = 0 ∨ p + k ≤ b.length)
  | 0, N, p, x, j, hN, h => by injection h with h; subst h; exact ⟨hN, .inl rfl⟩
  | k + 1, N, p, x, j, hN, h => by
    unfold jUnit at h
    cases hx : b[p]? with
    | none => rw [hx] at h; cases h
    | some c =>
      rw [hx] at h
      simp only [] at h
      cases hd : jHex c with
      | none => rw [hd] at h; cases h
      | some d =>
        rw [hd] at h
        simp only [] at h
        have hd16 : d < 16 := by
          unfold jHex at hd
          split at hd
          · injection hd; omega
          · split at hd
            · injection hd; omega
            · split at hd
              · injection hd; omega
              · cases hd
        have hp := (List.getElem?_eq_some_iff.1 hx).1
        obtain ⟨h1, h2⟩ := jUnit_lt (j := j + 1) (by rw [Nat.pow_succ]; omega) h
        refine ⟨by rw [show j + (k + 1) = j + 1 + k by omega]; exact h1, .inr ?_⟩
        rcases h2 with rfl | h2 <;> omega

set_option maxRecDepth 20000 in
set_option maxHeartbeats 3200000 in
theorem unit_any (g : Nat) (A : Option Addr) (n c p m B from_ : Nat) (b : List UInt8) (w : World) (hh : w.heap[g]? = some (.cells (rdrL A n c p m).toArray 63 (0, 0))) (hg : B ≤ g) (hB : B ≤ w.heap.size) (hn : n ≤ 140737488355000) (hp : p ≤ n) (hr : Rd w (· < B) A 1 n (b.map bv)) :
    Calls Tryd.prog 67 #[.pointer (some ⟨g, 0, none⟩), .int .i64 (from_ : Int)] w (JPost w g (jUnit b from_ 4 0 p) (fun x => .returned (.int .i32 (x : Int))) (fun _ => rdrL A n c (p + 4) m)) := by
  have hl := box hr.bytes_len
  have hF0 := Fr.one hh
  clear hh
  go_enter Tryd.func67, Tryd.ntmps67
  go_wp2_with fail
  go_loopg [5, 7] 4 (fun k x i wr => ∃ j N p' : Nat, j ≤ 4 ∧ k = 4 - j ∧ x = .int .i32 (N : Int) ∧ N < 16 ^ j ∧ i = .int .i64 (j : Int) ∧ p' = p + j ∧ p' ≤ n ∧ Box (jUnit b from_ 4 0 p = jUnit b from_ (4 - j) N p') ∧ Fr [g] w wr [.blk g 63 (rdrL A n c p' m)])
  case atStart => exact ⟨0, 0, p, by omega, rfl, rfl, by decide, rfl, rfl, hp, box rfl, hF0⟩
  case round =>
    obtain ⟨j, N, p', hj, hk, rfl, hN, rfl, hpp, hpn, hw, hF⟩ := hrel
    clear hF0
    by_cases hlt : j < 4
    · cases hx : b[p']? with
      | some x =>
        have hxb := x.toNat_lt
        have hnx := box (next_q hx (hF.blk (i := 0) rfl) (hF.rdB hg hB hr) 0)
        have hplt := (List.getElem?_eq_some_iff.1 hx).1
        rw [hl.out] at hplt
        replace hk := box hk
        replace hpp := box hpp
        have hN2 : N < 65536 := by
          have : 16 ^ j ≤ 16 ^ 4 := Nat.pow_le_pow_right (by decide) hj
          omega
        by_cases h0 : 48 ≤ x.toNat ∧ x.toNat ≤ 57
        · obtain ⟨d, hd, hdx⟩ : ∃ d, d < 16 ∧ x.toNat = d + 48 := ⟨x.toNat - 48, by omega, by omega⟩
          obtain ⟨N', hN'⟩ : ∃ N', N' = 16 * N + d := ⟨_, rfl⟩
          have hor : bits BinOp.or IntKind.i32 ((N : Int) * 16) ((x.toNat : Int) - 48) = (N' : Int) := by
            rw [show (x.toNat : Int) - 48 = (d : Int) by omega, hN']
            exact hex_or N d hN2 hd
          have hjh : jHex x = some d := by unfold jHex; rw [if_pos (by omega)]; exact congrArg some (by omega)
          have hgo : Box (jUnit b from_ 4 0 p = jUnit b from_ (4 - (j + 1)) N' (p' + 1)) := box (by
            rw [hw.out, show 4 - j = (4 - (j + 1)) + 1 by omega, jUnit, hx]; simp only []; rw [hjh, hN'])
          have hN16 : N' < 16 ^ (j + 1) := by rw [Nat.pow_succ]; omega
          clear hdx hN' hjh hx
          go_wp2_with fail
          refine (hnx.out).mono ?_
          rintro e w1 ⟨rfl, q1, rfl⟩
          have hFd := hF.drewN q1
          have hc1 := rdr_p (hFd.blk (i := 0) rfl)
          go_wp2_with (first | ((with_reducible refine lst (by with_unfolding_all rfl) (wp_fst0 hFd (by with_unfolding_all exact ⟨_, _, rfl, rfl, rfl⟩) (by kernel_rfl) rfl rfl (by rw [rdrL_len]; decide) (rdrL_at (v := (p' : Int) + 1) (q := p' + 1) (by omega)) ?_)); intro w2 hF2 hz2))
          go_roundg (4 - (j + 1))
          case rel => exact ⟨j + 1, N', p' + 1, by omega, rfl, rfl, hN16, by go_num, by have := hpp.out; omega, by omega, hgo, hF2⟩
          case measure => have := hk.out; omega
        · by_cases h1 : 97 ≤ x.toNat ∧ x.toNat ≤ 102
          · obtain ⟨d, hd, hdx⟩ : ∃ d, d < 16 ∧ x.toNat = d + 87 := ⟨x.toNat - 87, by omega, by omega⟩
            obtain ⟨N', hN'⟩ : ∃ N', N' = 16 * N + d := ⟨_, rfl⟩
            have hor : bits BinOp.or IntKind.i32 ((N : Int) * 16) ((x.toNat : Int) - 97 + 10) = (N' : Int) := by
              rw [show (x.toNat : Int) - 97 + 10 = (d : Int) by omega, hN']
              exact hex_or N d hN2 hd
            have hjh : jHex x = some d := by unfold jHex; rw [if_neg (by omega)]; rw [if_pos (by omega)]; exact congrArg some (by omega)
            have hgo : Box (jUnit b from_ 4 0 p = jUnit b from_ (4 - (j + 1)) N' (p' + 1)) := box (by
              rw [hw.out, show 4 - j = (4 - (j + 1)) + 1 by omega, jUnit, hx]; simp only []; rw [hjh, hN'])
            have hN16 : N' < 16 ^ (j + 1) := by rw [Nat.pow_succ]; omega
            clear hdx hN' hjh hx
            go_wp2_with fail
            refine (hnx.out).mono ?_
            rintro e w1 ⟨rfl, q1, rfl⟩
            have hFd := hF.drewN q1
            have hc1 := rdr_p (hFd.blk (i := 0) rfl)
            go_wp2_with (first | ((with_reducible refine lst (by with_unfolding_all rfl) (wp_fst0 hFd (by with_unfolding_all exact ⟨_, _, rfl, rfl, rfl⟩) (by kernel_rfl) rfl rfl (by rw [rdrL_len]; decide) (rdrL_at (v := (p' : Int) + 1) (q := p' + 1) (by omega)) ?_)); intro w2 hF2 hz2))
            go_roundg (4 - (j + 1))
            case rel => exact ⟨j + 1, N', p' + 1, by omega, rfl, rfl, hN16, by go_num, by have := hpp.out; omega, by omega, hgo, hF2⟩
            case measure => have := hk.out; omega
          · by_cases h2 : 65 ≤ x.toNat ∧ x.toNat ≤ 70
            · obtain ⟨d, hd, hdx⟩ : ∃ d, d < 16 ∧ x.toNat = d + 55 := ⟨x.toNat - 55, by omega, by omega⟩
              obtain ⟨N', hN'⟩ : ∃ N', N' = 16 * N + d := ⟨_, rfl⟩
              have hor : bits BinOp.or IntKind.i32 ((N : Int) * 16) ((x.toNat : Int) - 65 + 10) = (N' : Int) := by
                rw [show (x.toNat : Int) - 65 + 10 = (d : Int) by omega, hN']
                exact hex_or N d hN2 hd
              have hjh : jHex x = some d := by unfold jHex; rw [if_neg (by omega)]; rw [if_neg (by omega)]; rw [if_pos (by omega)]; exact congrArg some (by omega)
              have hgo : Box (jUnit b from_ 4 0 p = jUnit b from_ (4 - (j + 1)) N' (p' + 1)) := box (by
                rw [hw.out, show 4 - j = (4 - (j + 1)) + 1 by omega, jUnit, hx]; simp only []; rw [hjh, hN'])
              have hN16 : N' < 16 ^ (j + 1) := by rw [Nat.pow_succ]; omega
              clear hdx hN' hjh hx
              go_wp2_with fail
              refine (hnx.out).mono ?_
              rintro e w1 ⟨rfl, q1, rfl⟩
              have hFd := hF.drewN q1
              have hc1 := rdr_p (hFd.blk (i := 0) rfl)
              go_wp2_with (first | ((with_reducible refine lst (by with_unfolding_all rfl) (wp_fst0 hFd (by with_unfolding_all exact ⟨_, _, rfl, rfl, rfl⟩) (by kernel_rfl) rfl rfl (by rw [rdrL_len]; decide) (rdrL_at (v := (p' : Int) + 1) (q := p' + 1) (by omega)) ?_)); intro w2 hF2 hz2))
              go_roundg (4 - (j + 1))
              case rel => exact ⟨j + 1, N', p' + 1, by omega, rfl, rfl, hN16, by go_num, by have := hpp.out; omega, by omega, hgo, hF2⟩
              case measure => have := hk.out; omega
            ·
                have hjh : jHex x = none := by unfold jHex; rw [if_neg (by omega), if_neg (by omega), if_neg (by omega)]
                have hend : Box (jUnit b from_ 4 0 p = .error (from_, 62)) := box (by
                  rw [hw.out, show 4 - j = (4 - (j + 1)) + 1 by omega, jUnit, hx]; simp only []; rw [hjh])
                have hfl := box (fun v w => fail_any v from_ 62 w)
                clear hjh hx
                go_wp2_with fail
                refine (hnx.out).mono ?_
                rintro e w1 ⟨rfl, q1, rfl⟩
                have hFd := hF.drewN q1
                go_wp2_with fail
                all_goals
                  refine (hfl.out _ _).mono ?_
                  rintro e w2 ⟨rfl, rfl⟩
                  dsimp only [flt]
                  go_wp2
                  exact ⟨rfl, by unfold JPost; rw [hend.out]; exact ⟨rfl, hFd.grown⟩⟩
      | none =>
        have hend : Box (jUnit b from_ 4 0 p = .error (n, 9)) := box (by
          rw [hw.out, show 4 - j = (4 - (j + 1)) + 1 by omega, jUnit, hx, hl.out])
        have hnx := box (next_x hx (hF.blk (i := 0) rfl) (hF.rdB hg hB hr))
        rw [hl.out] at hnx
        clear hx
        go_wp2_with fail
        refine (hnx.out).mono ?_
        rintro e w1 ⟨rfl, hb1⟩
        have hFd := hF.call hb1
        dsimp only [flt]
        go_wp2
        exact ⟨rfl, by unfold JPost; rw [hend.out]; exact ⟨rfl, hFd.grown⟩⟩
    · obtain rfl : j = 4 := by omega
      have hend : Box (jUnit b from_ 4 0 p = .ok N) := box (by rw [hw.out]; rfl)
      have hpe : Box (p' = p + 4) := box hpp
      clear hpp hk
      go_wp2
      go_ret
      unfold JPost
      rw [hend.out]
      exact ⟨rfl, by rw [← hpe.out]; exact hF⟩
end Go.Proofs.YtdekogmegdhjoaaDoor

namespace Go.Proofs.YtdekogmegdhjoaaDoor
open Go.RowKit
set_option linter.unusedSimpArgs false

theorem grown_trans {w w1 w2 : World} {r : Option Nat} (h : w.grownBy w1 r) (h2 : w1.grownBy w2 r) : w.grownBy w2 r :=
  ⟨h2.os.trans h.os, h2.tape.trans h.tape, h2.output.trans h.output, Nat.le_trans h.size h2.size, fun k hk hne => (h2.block k (Nat.lt_of_lt_of_le hk h.size) hne).trans (h.block k hk hne)⟩
/-- A callee that was handed the block, and has changed it. -/
theorem Fr.putF {X : List Nat} {w0 w w' : World} {es : List Ent} {g : Nat} {t : TypeId} {cs cs' : List Value} (hF : Fr X w0 w es) {i : Nat} (hi : es[i]? = some (.blk g t cs)) (h : Fr [g] w w' [.blk g t cs']) : Fr X w0 w' (es.set i (.blk g t cs')) :=
  hF.put hi h.grown (h.holds 0 _ rfl) (.inl rfl)
/-- .. and hands back bytes of its own. -/
theorem Fr.putB {X : List Nat} {w0 w w' : World} {es : List Ent} {g : Nat} {t e : TypeId} {cs cs' : List Value} {v : Value} {l : List UInt8} (hF : Fr X w0 w es) {i : Nat} (hi : es[i]? = some (.blk g t cs)) (h : Fr [g] w w' [Ent.bytes w.heap.size e v l, .blk g t cs']) : Fr X w0 w' (Ent.bytes w0.heap.size e v l :: es.set i (.blk g t cs')) := by
  have hp := hF.putF hi h.tail
  have ho : w'.ownsRow w.heap.size e 1 v l.length (l.map bv) := h.holds 0 _ rfl
  refine hp.push (e := Ent.bytes w0.heap.size e v l) ?_ fun b hb => ?_
  · refine ⟨ho.1, ho.2.imp id ?_⟩
    rintro ⟨g', cap, cur, hv, hg', rest⟩
    exact ⟨g', cap, cur, hv, Nat.le_trans hF.size hg', rest⟩
  · have hlt := (World.ownsRow.lt ho b hb).1
    refine ⟨.inl (Nat.le_trans hF.size hlt), fun j f hj he => ?_⟩
    have hil : i < es.length := (List.getElem?_eq_some_iff.1 hi).1
    rw [List.getElem?_set] at hj
    by_cases hij : i = j
    · rw [if_pos hij, if_pos hil] at hj
      injection hj with hj
      subst hj
      injection he with he
      have := hF.lt hi
      omega
    · rw [if_neg hij] at hj
      have := Ent.lt (hF.holds j f hj) he
      omega
/-- How a reading ends that tells more. -/
def JEndP {α : Type} (w : World) (g : Nat) (r : JR α) (Q : α → Ending → World → Prop) (e : Ending) (w' : World) : Prop :=
  match r with
  | .ok a => Q a e w'
  | .error x => e = flt x ∧ w.grownBy w' (some g)
/-- Bytes of the call's own are told, and the reader's place. -/
def ToldB (w : World) (g : Nat) (A : Option Addr) (n c m : Nat) (x : List UInt8 × Nat) (e : Ending) (w' : World) : Prop :=
  ∃ v, e = .returned v ∧ Fr [g] w w' [Ent.bytes w.heap.size 5 v x.1, .blk g 63 (rdrL A n c x.2 m)]
/-- unicode/utf8.AppendRune(nil, r) at a sign. -/
def RuneOk : Prop := ∀ (r : Nat) (w : World), r < 1114112 → ¬ (55296 ≤ r ∧ r < 57344) →
  Calls Tryd.prog 68 #[.slice none 0 0, .int .i32 (r : Int)] w fun e w' => ∃ v, e = .returned v ∧ OwnB w' w.heap.size 5 v (jSign r) ∧ Below w.heap.size w w'

set_option maxRecDepth 20000 in
set_option maxHeartbeats 6400000 in
theorem escape_plain (g : Nat) (A : Option Addr) (n c p m B : Nat) (b : List UInt8) (w : World) (hh : w.heap[g]? = some (.cells (rdrL A n c p m).toArray 63 (0, 0))) (hg : B ≤ g) (hB : B ≤ w.heap.size) (hn : n ≤ 140737488355000) (hp : p < n) (hr : Rd w (· < B) A 1 n (b.map bv)) (hu : b[p + 1]? ≠ some 117) :
    Calls Tryd.prog 55 #[.pointer (some ⟨g, 0, none⟩)] w (JEndP w g (jEscape b p) (ToldB w g A n c m)) := by
  have hl := box hr.bytes_len
  have hF0 := Fr.one hh
  have h1 := rdr_p hh
  clear hh
  cases hx : b[p + 1]? with
  | none =>
    have hj : Box (jEscape b p = .error (n, 9)) := box (by unfold jEscape; rw [hx, hl.out])
    have hnx := box (fun w' (hF : Fr [g] w w' [.blk g 63 (rdrL A n c (p + 1) m)]) => next_x hx (hF.blk (i := 0) rfl) (hF.rdB hg hB hr))
    rw [hl.out] at hnx
    clear hx
    go_enter Tryd.func55, Tryd.ntmps55
    go_wp2_with (first | ((with_reducible refine lst (by with_unfolding_all rfl) (wp_fst0 hF0 (by with_unfolding_all exact ⟨_, _, rfl, rfl, rfl⟩) (by kernel_rfl) rfl rfl (by rw [rdrL_len]; decide) (rdrL_at (q := p + 1) (by omega)) ?_)); intro w1 hF1 hz1))
    refine (hnx.out _ hF1).mono ?_
    rintro e w2 ⟨rfl, hb2⟩
    have hF2 := hF1.call hb2
    dsimp only [flt]
    go_wp2
    exact ⟨rfl, by unfold JEndP; rw [hj.out]; exact ⟨rfl, hF2.grown⟩⟩
  | some x =>
    have hxb := x.toNat_lt
    have hp1 := (List.getElem?_eq_some_iff.1 hx).1
    rw [hl.out] at hp1
    have hnx := box (fun w' (hF : Fr [g] w w' [.blk g 63 (rdrL A n c (p + 1) m)]) => next_q hx (hF.blk (i := 0) rfl) (hF.rdB hg hB hr) 0)
    by_cases hx0 : x = 34
    · subst hx0
      have hj : Box (jEscape b p = .ok ([34], p + 2)) := box (by unfold jEscape; rw [hx]; simp)
      clear hx hu
      go_enter Tryd.func55, Tryd.ntmps55
      go_wp2_with (first | ((with_reducible refine lst (by with_unfolding_all rfl) (wp_fst0 hF0 (by with_unfolding_all exact ⟨_, _, rfl, rfl, rfl⟩) (by kernel_rfl) rfl rfl (by rw [rdrL_len]; decide) (rdrL_at (q := p + 1) (by omega)) ?_)); intro w1 hF1 hz1))
      refine (hnx.out _ hF1).mono ?_
      rintro e w2 ⟨rfl, q2, rfl⟩
      have hF2 := hF1.drewN q2
      have h2 := rdr_p (hF2.blk (i := 0) rfl)
      go_wp2_with (first | ((with_reducible refine lst (by with_unfolding_all rfl) (wp_fst0 hF2 (by with_unfolding_all exact ⟨_, _, rfl, rfl, rfl⟩) (by kernel_rfl) rfl rfl (by rw [rdrL_len]; decide) (rdrL_at (q := p + 2) (by omega)) ?_)); intro w3 hF3 hz3) | ((with_reducible refine lst (by with_unfolding_all rfl) (wp_fbsl T_u8 hF3 (vs := [bv 34]) (by with_unfolding_all rfl) (by with_unfolding_all rfl) (by with_unfolding_all rfl) (by decide) (by simp [bv, Value.cells]) ?_)); intro w4 g4 hF4 hz4; have hr4 : Rd w4 (· < w4.heap.size) (some ⟨g4, 0, none⟩) 1 1 ([34].map bv) := hF4.rdOwn0; replace hF4 : Fr _ _ w4 (Ent.bytes _ 5 (.slice (some ⟨g4, 0, none⟩) 1 1) [34] :: _) := hF4))
      go_ret
      unfold JEndP
      rw [hj.out]
      exact ⟨_, rfl, hF4⟩
    · by_cases hx1 : x = 92
      · subst hx1
        have hj : Box (jEscape b p = .ok ([92], p + 2)) := box (by unfold jEscape; rw [hx]; simp)
        clear hx hu
        go_enter Tryd.func55, Tryd.ntmps55
        go_wp2_with (first | ((with_reducible refine lst (by with_unfolding_all rfl) (wp_fst0 hF0 (by with_unfolding_all exact ⟨_, _, rfl, rfl, rfl⟩) (by kernel_rfl) rfl rfl (by rw [rdrL_len]; decide) (rdrL_at (q := p + 1) (by omega)) ?_)); intro w1 hF1 hz1))
        refine (hnx.out _ hF1).mono ?_
        rintro e w2 ⟨rfl, q2, rfl⟩
        have hF2 := hF1.drewN q2
        have h2 := rdr_p (hF2.blk (i := 0) rfl)
        go_wp2_with (first | ((with_reducible refine lst (by with_unfolding_all rfl) (wp_fst0 hF2 (by with_unfolding_all exact ⟨_, _, rfl, rfl, rfl⟩) (by kernel_rfl) rfl rfl (by rw [rdrL_len]; decide) (rdrL_at (q := p + 2) (by omega)) ?_)); intro w3 hF3 hz3) | ((with_reducible refine lst (by with_unfolding_all rfl) (wp_fbsl T_u8 hF3 (vs := [bv 92]) (by with_unfolding_all rfl) (by with_unfolding_all rfl) (by with_unfolding_all rfl) (by decide) (by simp [bv, Value.cells]) ?_)); intro w4 g4 hF4 hz4; have hr4 : Rd w4 (· < w4.heap.size) (some ⟨g4, 0, none⟩) 1 1 ([92].map bv) := hF4.rdOwn0; replace hF4 : Fr _ _ w4 (Ent.bytes _ 5 (.slice (some ⟨g4, 0, none⟩) 1 1) [92] :: _) := hF4))
        go_ret
        unfold JEndP
        rw [hj.out]
        exact ⟨_, rfl, hF4⟩
      · by_cases hx2 : x = 47
        · subst hx2
          have hj : Box (jEscape b p = .ok ([47], p + 2)) := box (by unfold jEscape; rw [hx]; simp)
          clear hx hu
          go_enter Tryd.func55, Tryd.ntmps55
          go_wp2_with (first | ((with_reducible refine lst (by with_unfolding_all rfl) (wp_fst0 hF0 (by with_unfolding_all exact ⟨_, _, rfl, rfl, rfl⟩) (by kernel_rfl) rfl rfl (by rw [rdrL_len]; decide) (rdrL_at (q := p + 1) (by omega)) ?_)); intro w1 hF1 hz1))
          refine (hnx.out _ hF1).mono ?_
          rintro e w2 ⟨rfl, q2, rfl⟩
          have hF2 := hF1.drewN q2
          have h2 := rdr_p (hF2.blk (i := 0) rfl)
          go_wp2_with (first | ((with_reducible refine lst (by with_unfolding_all rfl) (wp_fst0 hF2 (by with_unfolding_all exact ⟨_, _, rfl, rfl, rfl⟩) (by kernel_rfl) rfl rfl (by rw [rdrL_len]; decide) (rdrL_at (q := p + 2) (by omega)) ?_)); intro w3 hF3 hz3) | ((with_reducible refine lst (by with_unfolding_all rfl) (wp_fbsl T_u8 hF3 (vs := [bv 47]) (by with_unfolding_all rfl) (by with_unfolding_all rfl) (by with_unfolding_all rfl) (by decide) (by simp [bv, Value.cells]) ?_)); intro w4 g4 hF4 hz4; have hr4 : Rd w4 (· < w4.heap.size) (some ⟨g4, 0, none⟩) 1 1 ([47].map bv) := hF4.rdOwn0; replace hF4 : Fr _ _ w4 (Ent.bytes _ 5 (.slice (some ⟨g4, 0, none⟩) 1 1) [47] :: _) := hF4))
          go_ret
          unfold JEndP
          rw [hj.out]
          exact ⟨_, rfl, hF4⟩
        · by_cases hx3 : x = 98
          · subst hx3
            have hj : Box (jEscape b p = .ok ([8], p + 2)) := box (by unfold jEscape; rw [hx]; simp)
            clear hx hu
            go_enter Tryd.func55, Tryd.ntmps55
            go_wp2_with (first | ((with_reducible refine lst (by with_unfolding_all rfl) (wp_fst0 hF0 (by with_unfolding_all exact ⟨_, _, rfl, rfl, rfl⟩) (by kernel_rfl) rfl rfl (by rw [rdrL_len]; decide) (rdrL_at (q := p + 1) (by omega)) ?_)); intro w1 hF1 hz1))
            refine (hnx.out _ hF1).mono ?_
            rintro e w2 ⟨rfl, q2, rfl⟩
            have hF2 := hF1.drewN q2
            have h2 := rdr_p (hF2.blk (i := 0) rfl)
            go_wp2_with (first | ((with_reducible refine lst (by with_unfolding_all rfl) (wp_fst0 hF2 (by with_unfolding_all exact ⟨_, _, rfl, rfl, rfl⟩) (by kernel_rfl) rfl rfl (by rw [rdrL_len]; decide) (rdrL_at (q := p + 2) (by omega)) ?_)); intro w3 hF3 hz3) | ((with_reducible refine lst (by with_unfolding_all rfl) (wp_fbsl T_u8 hF3 (vs := [bv 8]) (by with_unfolding_all rfl) (by with_unfolding_all rfl) (by with_unfolding_all rfl) (by decide) (by simp [bv, Value.cells]) ?_)); intro w4 g4 hF4 hz4; have hr4 : Rd w4 (· < w4.heap.size) (some ⟨g4, 0, none⟩) 1 1 ([8].map bv) := hF4.rdOwn0; replace hF4 : Fr _ _ w4 (Ent.bytes _ 5 (.slice (some ⟨g4, 0, none⟩) 1 1) [8] :: _) := hF4))
            go_ret
            unfold JEndP
            rw [hj.out]
            exact ⟨_, rfl, hF4⟩
          · by_cases hx4 : x = 102
            · subst hx4
              have hj : Box (jEscape b p = .ok ([12], p + 2)) := box (by unfold jEscape; rw [hx]; simp)
              clear hx hu
              go_enter Tryd.func55, Tryd.ntmps55
              go_wp2_with (first | ((with_reducible refine lst (by with_unfolding_all rfl) (wp_fst0 hF0 (by with_unfolding_all exact ⟨_, _, rfl, rfl, rfl⟩) (by kernel_rfl) rfl rfl (by rw [rdrL_len]; decide) (rdrL_at (q := p + 1) (by omega)) ?_)); intro w1 hF1 hz1))
              refine (hnx.out _ hF1).mono ?_
              rintro e w2 ⟨rfl, q2, rfl⟩
              have hF2 := hF1.drewN q2
              have h2 := rdr_p (hF2.blk (i := 0) rfl)
              go_wp2_with (first | ((with_reducible refine lst (by with_unfolding_all rfl) (wp_fst0 hF2 (by with_unfolding_all exact ⟨_, _, rfl, rfl, rfl⟩) (by kernel_rfl) rfl rfl (by rw [rdrL_len]; decide) (rdrL_at (q := p + 2) (by omega)) ?_)); intro w3 hF3 hz3) | ((with_reducible refine lst (by with_unfolding_all rfl) (wp_fbsl T_u8 hF3 (vs := [bv 12]) (by with_unfolding_all rfl) (by with_unfolding_all rfl) (by with_unfolding_all rfl) (by decide) (by simp [bv, Value.cells]) ?_)); intro w4 g4 hF4 hz4; have hr4 : Rd w4 (· < w4.heap.size) (some ⟨g4, 0, none⟩) 1 1 ([12].map bv) := hF4.rdOwn0; replace hF4 : Fr _ _ w4 (Ent.bytes _ 5 (.slice (some ⟨g4, 0, none⟩) 1 1) [12] :: _) := hF4))
              go_ret
              unfold JEndP
              rw [hj.out]
              exact ⟨_, rfl, hF4⟩
            · by_cases hx5 : x = 110
              · subst hx5
                have hj : Box (jEscape b p = .ok ([10], p + 2)) := box (by unfold jEscape; rw [hx]; simp)
                clear hx hu
                go_enter Tryd.func55, Tryd.ntmps55
                go_wp2_with (first | ((with_reducible refine lst (by with_unfolding_all rfl) (wp_fst0 hF0 (by with_unfolding_all exact ⟨_, _, rfl, rfl, rfl⟩) (by kernel_rfl) rfl rfl (by rw [rdrL_len]; decide) (rdrL_at (q := p + 1) (by omega)) ?_)); intro w1 hF1 hz1))
                refine (hnx.out _ hF1).mono ?_
                rintro e w2 ⟨rfl, q2, rfl⟩
                have hF2 := hF1.drewN q2
                have h2 := rdr_p (hF2.blk (i := 0) rfl)
                go_wp2_with (first | ((with_reducible refine lst (by with_unfolding_all rfl) (wp_fst0 hF2 (by with_unfolding_all exact ⟨_, _, rfl, rfl, rfl⟩) (by kernel_rfl) rfl rfl (by rw [rdrL_len]; decide) (rdrL_at (q := p + 2) (by omega)) ?_)); intro w3 hF3 hz3) | ((with_reducible refine lst (by with_unfolding_all rfl) (wp_fbsl T_u8 hF3 (vs := [bv 10]) (by with_unfolding_all rfl) (by with_unfolding_all rfl) (by with_unfolding_all rfl) (by decide) (by simp [bv, Value.cells]) ?_)); intro w4 g4 hF4 hz4; have hr4 : Rd w4 (· < w4.heap.size) (some ⟨g4, 0, none⟩) 1 1 ([10].map bv) := hF4.rdOwn0; replace hF4 : Fr _ _ w4 (Ent.bytes _ 5 (.slice (some ⟨g4, 0, none⟩) 1 1) [10] :: _) := hF4))
                go_ret
                unfold JEndP
                rw [hj.out]
                exact ⟨_, rfl, hF4⟩
              · by_cases hx6 : x = 114
                · subst hx6
                  have hj : Box (jEscape b p = .ok ([13], p + 2)) := box (by unfold jEscape; rw [hx]; simp)
                  clear hx hu
                  go_enter Tryd.func55, Tryd.ntmps55
                  go_wp2_with (first | ((with_reducible refine lst (by with_unfolding_all rfl) (wp_fst0 hF0 (by with_unfolding_all exact ⟨_, _, rfl, rfl, rfl⟩) (by kernel_rfl) rfl rfl (by rw [rdrL_len]; decide) (rdrL_at (q := p + 1) (by omega)) ?_)); intro w1 hF1 hz1))
                  refine (hnx.out _ hF1).mono ?_
                  rintro e w2 ⟨rfl, q2, rfl⟩
                  have hF2 := hF1.drewN q2
                  have h2 := rdr_p (hF2.blk (i := 0) rfl)
                  go_wp2_with (first | ((with_reducible refine lst (by with_unfolding_all rfl) (wp_fst0 hF2 (by with_unfolding_all exact ⟨_, _, rfl, rfl, rfl⟩) (by kernel_rfl) rfl rfl (by rw [rdrL_len]; decide) (rdrL_at (q := p + 2) (by omega)) ?_)); intro w3 hF3 hz3) | ((with_reducible refine lst (by with_unfolding_all rfl) (wp_fbsl T_u8 hF3 (vs := [bv 13]) (by with_unfolding_all rfl) (by with_unfolding_all rfl) (by with_unfolding_all rfl) (by decide) (by simp [bv, Value.cells]) ?_)); intro w4 g4 hF4 hz4; have hr4 : Rd w4 (· < w4.heap.size) (some ⟨g4, 0, none⟩) 1 1 ([13].map bv) := hF4.rdOwn0; replace hF4 : Fr _ _ w4 (Ent.bytes _ 5 (.slice (some ⟨g4, 0, none⟩) 1 1) [13] :: _) := hF4))
                  go_ret
                  unfold JEndP
                  rw [hj.out]
                  exact ⟨_, rfl, hF4⟩
                · by_cases hx7 : x = 116
                  · subst hx7
                    have hj : Box (jEscape b p = .ok ([9], p + 2)) := box (by unfold jEscape; rw [hx]; simp)
                    clear hx hu
                    go_enter Tryd.func55, Tryd.ntmps55
                    go_wp2_with (first | ((with_reducible refine lst (by with_unfolding_all rfl) (wp_fst0 hF0 (by with_unfolding_all exact ⟨_, _, rfl, rfl, rfl⟩) (by kernel_rfl) rfl rfl (by rw [rdrL_len]; decide) (rdrL_at (q := p + 1) (by omega)) ?_)); intro w1 hF1 hz1))
                    refine (hnx.out _ hF1).mono ?_
                    rintro e w2 ⟨rfl, q2, rfl⟩
                    have hF2 := hF1.drewN q2
                    have h2 := rdr_p (hF2.blk (i := 0) rfl)
                    go_wp2_with (first | ((with_reducible refine lst (by with_unfolding_all rfl) (wp_fst0 hF2 (by with_unfolding_all exact ⟨_, _, rfl, rfl, rfl⟩) (by kernel_rfl) rfl rfl (by rw [rdrL_len]; decide) (rdrL_at (q := p + 2) (by omega)) ?_)); intro w3 hF3 hz3) | ((with_reducible refine lst (by with_unfolding_all rfl) (wp_fbsl T_u8 hF3 (vs := [bv 9]) (by with_unfolding_all rfl) (by with_unfolding_all rfl) (by with_unfolding_all rfl) (by decide) (by simp [bv, Value.cells]) ?_)); intro w4 g4 hF4 hz4; have hr4 : Rd w4 (· < w4.heap.size) (some ⟨g4, 0, none⟩) 1 1 ([9].map bv) := hF4.rdOwn0; replace hF4 : Fr _ _ w4 (Ent.bytes _ 5 (.slice (some ⟨g4, 0, none⟩) 1 1) [9] :: _) := hF4))
                    go_ret
                    unfold JEndP
                    rw [hj.out]
                    exact ⟨_, rfl, hF4⟩
                  ·
                    have hx8 : x ≠ 117 := fun h => hu (by rw [hx, h])
                    have hj : Box (jEscape b p = .error (p, 62)) := box (by unfold jEscape; rw [hx]; simp [hx0, hx1, hx2, hx3, hx4, hx5, hx6, hx7, hx8])
                    have hn0 : ((x.toNat : Int) == 34) = false := u8_ne hx0
                    have hn1 : ((x.toNat : Int) == 92) = false := u8_ne hx1
                    have hn2 : ((x.toNat : Int) == 47) = false := u8_ne hx2
                    have hn3 : ((x.toNat : Int) == 98) = false := u8_ne hx3
                    have hn4 : ((x.toNat : Int) == 102) = false := u8_ne hx4
                    have hn5 : ((x.toNat : Int) == 110) = false := u8_ne hx5
                    have hn6 : ((x.toNat : Int) == 114) = false := u8_ne hx6
                    have hn7 : ((x.toNat : Int) == 116) = false := u8_ne hx7
                    have hn8 : ((x.toNat : Int) == 117) = false := u8_ne hx8
                    have hfl := box (fun v w => fail_any v p 62 w)
                    clear hx hu hx0 hx1 hx2 hx3 hx4 hx5 hx6 hx7 hx8
                    go_enter Tryd.func55, Tryd.ntmps55
                    go_wp2_with (first | ((with_reducible refine lst (by with_unfolding_all rfl) (wp_fst0 hF0 (by with_unfolding_all exact ⟨_, _, rfl, rfl, rfl⟩) (by kernel_rfl) rfl rfl (by rw [rdrL_len]; decide) (rdrL_at (q := p + 1) (by omega)) ?_)); intro w1 hF1 hz1))
                    refine (hnx.out _ hF1).mono ?_
                    rintro e w2 ⟨rfl, q2, rfl⟩
                    have hF2 := hF1.drewN q2
                    have h2 := rdr_p (hF2.blk (i := 0) rfl)
                    go_wp2_with (first | ((with_reducible refine lst (by with_unfolding_all rfl) (wp_fst0 hF2 (by with_unfolding_all exact ⟨_, _, rfl, rfl, rfl⟩) (by kernel_rfl) rfl rfl (by rw [rdrL_len]; decide) (rdrL_at (q := p + 2) (by omega)) ?_)); intro w3 hF3 hz3))
                    refine (hfl.out _ _).mono ?_
                    rintro e w4 ⟨rfl, rfl⟩
                    dsimp only [flt]
                    go_wp2
                    exact ⟨rfl, by unfold JEndP; rw [hj.out]; exact ⟨rfl, hF3.grown⟩⟩
end Go.Proofs.YtdekogmegdhjoaaDoor

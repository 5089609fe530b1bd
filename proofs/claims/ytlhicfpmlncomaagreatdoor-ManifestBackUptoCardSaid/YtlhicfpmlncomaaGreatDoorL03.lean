/-
 Regions that draw their order and only read: the place of an element, its cell, its cells. Texts are compared. No program is named here.
 Layer 6: the program's reader: its words; faults; the next byte.
 Steps through regions that draw their order, in few words. No program is named here.
 Layer 6: the program's reader: blanks, words.
 Layer 7 in plain words: names of repositories, tags, media types. No program is named here.
 Layer 7 in plain words, further: where a sign stands first; pieces; tags; media types. No program is named here.
 Layer 1: plain laws on counts. No program is named here.
 Layer 1: plain laws on digits, numbers and texts. No program is named here.
 Layer 2 in plain words, as far as layer 7 needs it: the text of a sum. No program is named here.
 Layer 8 in plain words: manifests read. No program is named here.
 Layer 6: the program's reader: words.
 Layer 6: the program's reader: four digits of an escape.
-/
import Derived.Test.YtlhicfpmlncomaaGreatDoorL02
import Derived.Test.YtlhicfpmlncomaaGreatDoorL01
import Derived.Deep.QuietTactic
import Derived.BigQuiet
import Derived.Deep.LoopGhost
import Derived.Deep.DeepCutAuto
import Derived.Lib.Split
import Derived.Lib.IndexMore
import Derived.Lib.SplitLaws
import Derived.Laws.DeepBits32
set_option linter.unusedSimpArgs false
namespace Go.Proofs.YtlhicfpmlncomaaGreatDoor
open Go.RowKit
section
variable {P : Program} {o : Oper} {a : Act}
theorem yi_run {S : World → Prop} {ops : Array Oper} {v : Value} (hw : Region.wanted o (yielded ops a.tmps) = true) (h : ∀ w, S w → (execOp a.eval o).run P w = .ok (.value v) w) : YieldsIf P ops S o v a := .inl ⟨hw, h⟩
theorem yi_ix {S : World → Prop} {ops : Array Oper} (hw : Region.wanted o (yielded ops a.tmps) = true) {t e : TypeId} {size bytes : Nat} {z : Value} (T : SlT P t e size bytes z) {A : Option Addr} {n k : Nat} {j : Int} (hA : 0 < n → A = some (A.getD default))
  (ho : IsIx o a t A n j) (hj : j = (k : Int)) (hk : k < n) : YieldsIf P ops S o (.pointer (some (atp A (k * size)))) a := by
 refine yi_run hw fun w _ => ?_
 obtain ⟨x, i, c, kd, ho, hx, hi⟩ := ho
 obtain ⟨i', hi', _, hsz, _⟩ := info_parts T.info
 have hA := hA (by omega)
 have he : P.elem t = e := by simp [Program.elem, T.und]
 subst hj
 unfold execOp
 have hrun := run_indexAt_slice (P := P) w t (A.getD default) n c kd (k : Int) (by rw [he]; exact T.und)
 rw [if_pos ⟨by omega, by omega⟩] at hrun
 simp only [ho, hx, hi]
 rw [hA]
 simp [hrun, he, sizeOf, typeInfo, hi', hsz, atp]
theorem yi_ld {S : World → Prop} {ops : Array Oper} (hw : Region.wanted o (yielded ops a.tmps) = true) {S' : World → Nat → Prop} {A : Option Addr} {n size : Nat} {xs : List Value} (hr : ∀ w, S w → Rd w (S' w) A size n xs) {e : TypeId} {j : Nat} {u : Value} {d : TypeDesc} (hu : P.underlying e = some d) (hd : aggT d = false)
  (ho : IsLd o a e (atp A j)) (hj : xs[j]? = some u) : YieldsIf P ops S o u a := by
 refine yi_run hw fun w hS => ?_
 obtain ⟨x, ho, hx⟩ := ho
 have hc := (hr w hS).cell j u hj
 have hagg := run_isAgg hu w
 rw [hd] at hagg
 unfold execOp
 simp [ho, hx, Instr.loadAt, Instr.sureAddr, loadVar, hagg, hc]
theorem yi_ldA {S : World → Prop} {ops : Array Oper} (hw : Region.wanted o (yielded ops a.tmps) = true) {S' : World → Nat → Prop} {A : Option Addr} {n size : Nat} {xs : List Value} (hr : ∀ w, S w → Rd w (S' w) A size n xs) {e : TypeId} {j : Nat} {d : TypeDesc} (hu : P.underlying e = some d) (hd : aggT d = true)
  (ho : IsLd o a e (atp A j)) {ds : List Value} (hs : (P.info? e).map (·.size) = some ds.length) (hc : (xs.drop j).take ds.length = ds) : YieldsIf P ops S o (.agg ds.toArray) a := by
 refine yi_run hw fun w hS => ?_
 obtain ⟨x, ho, hx⟩ := ho
 have hagg := run_isAgg hu w
 rw [hd] at hagg
 obtain ⟨i, hi, hsz⟩ := Option.map_eq_some_iff.1 hs
 have hl : (loadCells (atp A j) ds.length).run P w = .ok ds.toArray w := run_loadCells_list (P := P) w (atp A j) ds (fun q v hv => by
  unfold atp
  rw [add_add]
  refine (hr w hS).cell (j + q) v ?_
  rw [← hc, List.getElem?_take] at hv
  split at hv
  ·rw [List.getElem?_drop] at hv; exact hv
  ·cases hv)
 unfold execOp
 simp [ho, hx, Instr.loadAt, Instr.sureAddr, loadVar, hagg, sizeOf, typeInfo, hi, hsz, hl]
end
end Go.Proofs.YtlhicfpmlncomaaGreatDoor

namespace Go.Proofs.YtlhicfpmlncomaaGreatDoor
open Go.RowKit
/-- The reader's cells: the bytes, the place, how many values. -/
def rdrL (A : Option Addr) (n c : Nat) (p m : Nat) : List Value := [.slice A n c, .int .i64 (p : Int), .int .i64 (m : Int)]
/-- A fault that goes up. -/
def flt (x : Nat × Nat) : Ending := .panicked [{ v := .iface 123 (.agg #[.int .i64 (x.1 : Int), .int .i64 (x.2 : Int)]), recovered := false }]
set_option maxRecDepth 20000 in
theorem fail_any (v : Value) (p e : Nat) (w : World) :
  Calls Tryz.prog 65 #[v, .int .i64 (p : Int), .int .i64 (e : Int)] w fun x w' => x = flt (p, e) ∧ w = w' := by
 go_enter Tryz.func65, Tryz.ntmps65
 go_wp2
 exact ⟨rfl, rfl, rfl⟩
/-- How a reading ends. -/
def jEnd {α : Type} (r : JR α) (f : α → Ending) : Ending :=
 match r with
 | .ok a => f a
 | .error x => flt x
section
variable {w : World} {g : Nat} {A : Option Addr} {n c p m : Nat}
theorem rdr_b (hh : w.heap[g]? = some (.cells (rdrL A n c p m).toArray 127 (0, 0))) : w.cell? ⟨g, 0, none⟩ = some (.slice A n c) := by
 rw [cell_of_row w g 0 _ _ (0, 0) hh]; rfl
theorem rdr_p (hh : w.heap[g]? = some (.cells (rdrL A n c p m).toArray 127 (0, 0))) : w.cell? ⟨g, 1, none⟩ = some (.int .i64 (p : Int)) := by
 rw [cell_of_row w g 1 _ _ (0, 0) hh]; rfl
end
set_option maxRecDepth 20000 in
set_option maxHeartbeats 800000 in
theorem next_any (g : Nat) (A : Option Addr) (n c p m : Nat) (b : List UInt8) (w : World) (S : Nat → Prop) (hh : w.heap[g]? = some (.cells (rdrL A n c p m).toArray 127 (0, 0))) (hr : Rd w S A 1 n (b.map bv)) :
  Calls Tryz.prog 85 #[.pointer (some ⟨g, 0, none⟩)] w fun e w' => e = jEnd (jNext b p) (fun c => .returned (bv c)) ∧ ∃ k, w' = w.drewN k := by
 have hl := hr.bytes_len
 have h0 := rdr_b hh
 have h1 := rdr_p hh
 clear hh
 by_cases hlt : p < n
 ·obtain ⟨ad, x, hA, hx, hcx⟩ := hr.atB hlt
  have hj : jNext b p = .ok x := by unfold jNext; rw [hx]
  rw [hj]
  replace hx := box hx
  clear hr
  subst hA
  go_enter Tryz.func85, Tryz.ntmps85
  go_wp2
  go_quiet (fail)
  go_wp2
  go_quiet (fail)
  go_wp2
  go_ret
  exact ⟨rfl, _, World.drewN_drewN _ _ _⟩
 ·have hj : jNext b p = .error (n, 9) := by unfold jNext; rw [List.getElem?_eq_none (by omega), hl]
  rw [hj]
  have hfl := box (fun v w => fail_any v n 9 w)
  go_enter Tryz.func85, Tryz.ntmps85
  go_wp2
  go_quiet (fail)
  go_wp2_with fail
  refine (hfl.out _ _).mono ?_
  rintro e w1 ⟨rfl, rfl⟩
  dsimp only [flt]
  go_wp2
  exact ⟨rfl, rfl, _, rfl⟩
section
variable {g : Nat} {A : Option Addr} {n c p m : Nat} {b : List UInt8} {w : World} {S : Nat → Prop}
theorem next_q {x : UInt8} (hx : b[p]? = some x) (hh : w.heap[g]? = some (.cells (rdrL A n c p m).toArray 127 (0, 0))) (hr : Rd w S A 1 n (b.map bv)) (k : Nat) :
  Calls Tryz.prog 85 #[.pointer (some ⟨g, 0, none⟩)] (w.drewN k) fun e w' => e = .returned (.int .u8 (x.toNat : Int)) ∧ ∃ m, w' = w.drewN m := by
 refine (next_any g A n c p m b (w.drewN k) S hh ⟨hr.len, hr.some_, hr.inS, hr.cell⟩).mono ?_
 rintro e w' ⟨rfl, j, rfl⟩
 unfold jNext
 rw [hx]
 exact ⟨rfl, _, World.drewN_drewN _ _ _⟩
theorem next_x (hx : b[p]? = none) (hh : w.heap[g]? = some (.cells (rdrL A n c p m).toArray 127 (0, 0))) (hr : Rd w S A 1 n (b.map bv)) :
  Calls Tryz.prog 85 #[.pointer (some ⟨g, 0, none⟩)] w fun e w' => e = flt (b.length, 9) ∧ Below w.heap.size w w' := by
 refine (next_any g A n c p m b w S hh hr).mono ?_
 rintro e w' ⟨rfl, j, rfl⟩
 unfold jNext
 rw [hx]
 exact ⟨rfl, below_drewN (Below.refl _ _) _⟩
end
/-- A call that ends in a panic. -/
theorem wp_callP {P : Program} {o : Oper} {a : Act} {w : World} {K : Act → World → Prop} {Q : Exit → Act → World → Prop} {f : FuncId} {fn : Func} {args : Array Operand} {ts : Array TypeId} {vs : Array Value} (hf : P.funcs[f]? = some fn) (hb : fn.body.isNone = false) (hn : (fn.name == "runtime.NumGoroutine") = false)
  (ho : o.op = .call { callee := .value (.func f), args := args, argTypes := ts }) (hv : args.map a.eval = vs) {R : Ending → World → Prop} (hc : Calls P f vs w R) (k : ∀ e w', R e w' → ∃ ch, e = .panicked ch ∧ Q (.panic ch) a w') : o.wp P a w K Q := by
 have hrun : (execOp a.eval o).run P w = .ok (.enter f vs) w := by
  unfold execOp
  have hn' : ¬ fn.name = "runtime.NumGoroutine" := by simpa using hn
  have hb' : ¬ fn.body = none := by
   intro h
   rw [h] at hb
   cases hb
  simp only [ho, resolve, Act.eval, Deferred.ofValue, invoke, callFunc, Sem.run_bind, Sem.run_pure, Result.andThen_ok, run_program, hf, ← hv]
  simp [hn', hb']
 unfold Oper.wp
 rw [hrun, Oper.upon_enter]
 refine hc.mono fun e w' hR => ?_
 obtain ⟨v, rfl, hK⟩ := k e w' hR
 exact hK
end Go.Proofs.YtlhicfpmlncomaaGreatDoor

namespace Go.Proofs.YtlhicfpmlncomaaGreatDoor
open Go.RowKit
section
variable {P : Program} {ops : Array Oper} {Q : Exit → Act → World → Prop} {md : Region.Mode} {S : World → Prop} {oi : Oper} {v : Value} {fuel : Nat} {listed : Array Bool} {a : Act} {w : World}
/-- What yields in every world. -/
theorem tkp (i : Nat) (hS : S w) (h : wpAnyH P md ops Q S fuel (listed.setIfInBounds i true) (a.put oi.dst v) w)
  (hi : ops[i]? = some oi := by first | (simp only [List.getElem?_toArray, List.getElem?_cons_zero]; rfl) | (simp only [List.getElem?_toArray, List.getElem?_cons_zero, List.getElem?_cons_succ]; rfl)) (hs : Region.noSelect ops = true := by kernel_rfl) (hf : Region.free md ops listed i = true := by kernel_rfl) (hr : (Region.ready md ops listed).contains i = true := by kernel_rfl)
  (hQ : ∀ c a w, Q (.panic c) (a.put oi.dst v) w → Q (.panic c) a w := by exact fun _ _ _ h => h) (hw : Region.wanted oi (yielded ops a.tmps) = true := by with_unfolding_all rfl)
  (hy : ∀ w, S w → (execOp a.eval oi).run P w = .ok (.value v) w := by intro w hSw; (try dsimp only at hSw); go_simp; try with_reducible rfl) : wpAnyH P md ops Q S (fuel + 1) listed a w :=
 wpAnyH_take hi hs hf hr hQ (.inl ⟨hw, hy⟩) hS h
/-- What is not wanted. -/
theorem tkn (i : Nat) (hS : S w) (h : wpAnyH P md ops Q S fuel (listed.setIfInBounds i true) (a.put oi.dst undef) w)
  (hi : ops[i]? = some oi := by first | (simp only [List.getElem?_toArray, List.getElem?_cons_zero]; rfl) | (simp only [List.getElem?_toArray, List.getElem?_cons_zero, List.getElem?_cons_succ]; rfl)) (hs : Region.noSelect ops = true := by kernel_rfl) (hf : Region.free md ops listed i = true := by kernel_rfl) (hr : (Region.ready md ops listed).contains i = true := by kernel_rfl)
  (hQ : ∀ c a w, Q (.panic c) (a.put oi.dst undef) w → Q (.panic c) a w := by exact fun _ _ _ h => h) (hw : Region.wanted oi (yielded ops a.tmps) = false := by with_unfolding_all rfl) : wpAnyH P md ops Q S (fuel + 1) listed a w :=
 wpAnyH_take hi hs hf hr hQ (.inr ⟨hw, rfl⟩) hS h
/-- What yields where S holds, by a proof. -/
theorem tky (i : Nat)
  (hi : ops[i]? = some oi := by first | (simp only [List.getElem?_toArray, List.getElem?_cons_zero]; rfl) | (simp only [List.getElem?_toArray, List.getElem?_cons_zero, List.getElem?_cons_succ]; rfl)) (hs : Region.noSelect ops = true := by kernel_rfl) (hf : Region.free md ops listed i = true := by kernel_rfl) (hr : (Region.ready md ops listed).contains i = true := by kernel_rfl)
  (y : YieldsIf P ops S oi v a) (s : S w) (h : wpAnyH P md ops Q S fuel (listed.setIfInBounds i true) (a.put oi.dst v) w)
  (hQ : ∀ c a w, Q (.panic c) (a.put oi.dst v) w → Q (.panic c) a w := by exact fun _ _ _ h => h) : wpAnyH P md ops Q S (fuel + 1) listed a w :=
 wpAnyH_take hi hs hf hr hQ y s h
/-- The one operation that comes up. -/
theorem rdy1 (i : Nat) {o : Oper} (h : ∀ K' : Act → World → Prop, Shut (∀ a w, S w → (S w → wpAnyH P md ops Q S fuel (listed.setIfInBounds i true) a w) → K' a w) → if Region.wanted o (yielded ops a.tmps) = true then Oper.wp P o a w K' Q else K' (a.put o.dst undef) w)
  (hr : Region.ready md ops listed = [i] := by kernel_rfl) (ho : ops[i]? = some o := by first | (simp only [List.getElem?_toArray, List.getElem?_cons_zero]; rfl) | (simp only [List.getElem?_toArray, List.getElem?_cons_zero, List.getElem?_cons_succ]; rfl)) : wpAnyH P md ops Q S (fuel + 1) listed a w :=
 wpAnyH_ready hr (by simp) (.cons ho h .nil)
end
end Go.Proofs.YtlhicfpmlncomaaGreatDoor

namespace Go.Proofs.YtlhicfpmlncomaaGreatDoor
open Go.RowKit
section
variable {w w' : World} {g B : Nat} {es : List Ent} {A : Option Addr} {size n c p m : Nat}
theorem Fr.rdB {xs : List Value} (hF : Fr [g] w w' es) (hg : B ≤ g) (hB : B ≤ w.heap.size) (hr : Rd w (· < B) A size n xs) : Rd w' (· < B) A size n xs :=
 ⟨hr.len, hr.some_, hr.inS, fun j u hu => by
  rw [← hr.cell j u hu]
  have hb := hr.inS (hr.pos_of hu)
  refine World.cell?_of_block (w := w) ?_
  rw [atp_block]
  exact hF.block _ (by omega) (by simp; omega)⟩
theorem rdrL_len : (rdrL A n c p m).length = 3 := rfl
theorem rdrL_at {v : Int} {q : Nat} (h : v = (q : Int)) : spl (rdrL A n c p m) 1 [.int .i64 v] = rdrL A n c q m := by subst h; rfl
theorem rdrL_it {v : Int} {q : Nat} (h : v = (q : Int)) : spl (rdrL A n c p m) 2 [.int .i64 v] = rdrL A n c p q := by subst h; rfl
end
theorem u8_ne {c d : UInt8} (h : c ≠ d) : ((c.toNat : Int) == (d.toNat : Int)) = false := by
 rw [beq_eq_false_iff_ne]; intro he; exact h (UInt8.toNat_inj.1 (by omega))
theorem jBlanks_go {b : List UInt8} {p : Nat} {x : UInt8} (hx : b[p]? = some x) (h : jBlank x = true) : jBlanks b p = jBlanks b (p + 1) := by
 have hp := (List.getElem?_eq_some_iff.1 hx).1
 unfold jBlanks
 rw [List.drop_eq_getElem_cons hp, (List.getElem?_eq_some_iff.1 hx).2, List.takeWhile_cons, if_pos h, List.length_cons]
 omega
theorem jBlanks_stop {b : List UInt8} {p : Nat} {x : UInt8} (hx : b[p]? = some x) (h : jBlank x = false) : jBlanks b p = p := by
 have hp := (List.getElem?_eq_some_iff.1 hx).1
 unfold jBlanks
 rw [List.drop_eq_getElem_cons hp, (List.getElem?_eq_some_iff.1 hx).2, List.takeWhile_cons, if_neg (by rw [h]; decide)]
 rfl
theorem jBlanks_end {b : List UInt8} {p : Nat} (hx : b.length ≤ p) : jBlanks b p = p := by
 unfold jBlanks
 rw [List.drop_of_length_le hx]
 rfl
theorem jBlanks_le (b : List UInt8) {p : Nat} (h : p ≤ b.length) : jBlanks b p ≤ b.length := by
 have := (List.takeWhile_sublist jBlank (l := b.drop p)).length_le
 rw [List.length_drop] at this
 unfold jBlanks
 omega
theorem jBlanks_ge (b : List UInt8) (p : Nat) : p ≤ jBlanks b p := by unfold jBlanks; omega
set_option maxRecDepth 20000 in
set_option maxHeartbeats 3200000 in
theorem blanks_any (g : Nat) (A : Option Addr) (n c p m B : Nat) (b : List UInt8) (w : World) (hh : w.heap[g]? = some (.cells (rdrL A n c p m).toArray 127 (0, 0))) (hg : B ≤ g) (hB : B ≤ w.heap.size) (hn : n ≤ 140737488355000) (hp : p ≤ n) (hr : Rd w (· < B) A 1 n (b.map bv)) :
  Calls Tryz.prog 63 #[.pointer (some ⟨g, 0, none⟩)] w fun e w' => e = .returned (.tuple #[]) ∧ Fr [g] w w' [.blk g 127 (rdrL A n c (jBlanks b p) m)] := by
 have hl := box hr.bytes_len
 have hF0 := Fr.one hh
 clear hh
 go_enter Tryz.func63, Tryz.ntmps63
 go_wp2_with fail
 go_loopg [] (n - p) (fun k wr => ∃ p' : Nat, p' ≤ n ∧ Box (k = n - p') ∧ Box (jBlanks b p = jBlanks b p') ∧ Fr [g] w wr [.blk g 127 (rdrL A n c p' m)])
 case atStart => exact ⟨p, hp, box rfl, box rfl, hF0⟩
 case round =>
  obtain ⟨p', hp', hk, hj, hF⟩ := hrel
  clear hF0
  have h0 := rdr_b (hF.blk (i := 0) rfl)
  have h1 := rdr_p (hF.blk (i := 0) rfl)
  by_cases hlt : p' < n
  ·obtain ⟨ad, x, hA, hx, hcx⟩ := (hF.rdB hg hB hr).atB hlt
   have hxb := x.toNat_lt
   clear hr
   subst hA
   by_cases hx0 : x = 32
   ·subst hx0
    have hgo := box (jBlanks_go hx (by decide))
    replace hx := box hx
    go_wp2
    go_quiet (fail)
    have hFd := hF.drewN nq
    go_wp2_with (first | ((with_reducible refine lsx (wp_fst0 hFd (by with_unfolding_all exact ⟨_, _, rfl, rfl, rfl⟩) (by kernel_rfl) rfl rfl (by rw [rdrL_len]; decide) (rdrL_at (v := (p' : Int) + 1) (q := p' + 1) (by omega)) ?_)); intro w2 hF2 hz2))
    go_roundg (n - (p' + 1))
    case rel => exact ⟨p' + 1, by omega, box rfl, box (hj.out.trans hgo.out), hF2⟩
    case measure => have := hk.out; omega
   ·by_cases hx1 : x = 9
    ·subst hx1
     have hgo := box (jBlanks_go hx (by decide))
     replace hx := box hx
     go_wp2
     go_quiet (fail)
     have hFd := hF.drewN nq
     go_wp2_with (first | ((with_reducible refine lsx (wp_fst0 hFd (by with_unfolding_all exact ⟨_, _, rfl, rfl, rfl⟩) (by kernel_rfl) rfl rfl (by rw [rdrL_len]; decide) (rdrL_at (v := (p' : Int) + 1) (q := p' + 1) (by omega)) ?_)); intro w2 hF2 hz2))
     go_roundg (n - (p' + 1))
     case rel => exact ⟨p' + 1, by omega, box rfl, box (hj.out.trans hgo.out), hF2⟩
     case measure => have := hk.out; omega
    ·by_cases hx2 : x = 10
     ·subst hx2
      have hgo := box (jBlanks_go hx (by decide))
      replace hx := box hx
      go_wp2
      go_quiet (fail)
      have hFd := hF.drewN nq
      go_wp2_with (first | ((with_reducible refine lsx (wp_fst0 hFd (by with_unfolding_all exact ⟨_, _, rfl, rfl, rfl⟩) (by kernel_rfl) rfl rfl (by rw [rdrL_len]; decide) (rdrL_at (v := (p' : Int) + 1) (q := p' + 1) (by omega)) ?_)); intro w2 hF2 hz2))
      go_roundg (n - (p' + 1))
      case rel => exact ⟨p' + 1, by omega, box rfl, box (hj.out.trans hgo.out), hF2⟩
      case measure => have := hk.out; omega
     ·by_cases hx3 : x = 13
      ·subst hx3
       have hgo := box (jBlanks_go hx (by decide))
       replace hx := box hx
       go_wp2
       go_quiet (fail)
       have hFd := hF.drewN nq
       go_wp2_with (first | ((with_reducible refine lsx (wp_fst0 hFd (by with_unfolding_all exact ⟨_, _, rfl, rfl, rfl⟩) (by kernel_rfl) rfl rfl (by rw [rdrL_len]; decide) (rdrL_at (v := (p' : Int) + 1) (q := p' + 1) (by omega)) ?_)); intro w2 hF2 hz2))
       go_roundg (n - (p' + 1))
       case rel => exact ⟨p' + 1, by omega, box rfl, box (hj.out.trans hgo.out), hF2⟩
       case measure => have := hk.out; omega
      ·have hst := box (jBlanks_stop hx (by simp [jBlank, hx0, hx1, hx2, hx3]))
       replace hx := box hx
       have hn0 : ((x.toNat : Int) == 32) = false := u8_ne hx0
       have hn1 : ((x.toNat : Int) == 9) = false := u8_ne hx1
       have hn2 : ((x.toNat : Int) == 10) = false := u8_ne hx2
       have hn3 : ((x.toNat : Int) == 13) = false := u8_ne hx3
       clear hx0 hx1 hx2 hx3
       go_wp2
       go_quiet (fail)
       have hFd := hF.drewN nq
       go_wp2
       go_end0
       rw [hj.out, hst.out]
       exact ⟨rfl, hFd⟩
  ·have hst := box (jBlanks_end (b := b) (p := p') (by have := hl.out; omega))
   go_wp2
   go_quiet (fail)
   have hFd := hF.drewN nq
   go_wp2
   go_end0
   rw [hj.out, hst.out]
   exact ⟨rfl, hFd⟩
end Go.Proofs.YtlhicfpmlncomaaGreatDoor

namespace Go.Proofs.YtlhicfpmlncomaaGreatDoor
open Go.RowKit
def smallB (c : UInt8) : Bool := decide (97 ≤ c.toNat ∧ c.toNat ≤ 122 ∨ 48 ≤ c.toNat ∧ c.toNat ≤ 57)
def signB (c : UInt8) : Bool := decide ((97 ≤ c.toNat ∧ c.toNat ≤ 122 ∨ 48 ≤ c.toNat ∧ c.toNat ≤ 57) ∨ 65 ≤ c.toNat ∧ c.toNat ≤ 90)
/-- The machine of a repository's name: 0 at the beginning of a part, 1 within a run, 2 behind a separator that is whole, 3 behind one _, 4 behind some -. -/
def step (q : Nat) (c : UInt8) : Option Nat :=
 if smallB c = true then some 1 else if c = 47 then (if q = 1 then some 0 else none) else if c = 46 then (if q = 1 then some 2 else none)
 else if c = 95 then (if q = 1 then some 3 else if q = 3 then some 2 else none) else if c = 45 then (if q = 1 ∨ q = 4 then some 4 else none) else none
def acc : Nat → List UInt8 → Bool
 | q, [] => q == 1
 | q, c :: l => match step q c with
  | none => false
  | some q' => acc q' l
/-- What a byte is to the machine. -/
theorem kind (c : UInt8) : smallB c = true ∨ c = 47 ∨ c = 46 ∨ c = 95 ∨ c = 45 ∨ (smallB c = false ∧ c ≠ 47 ∧ c ≠ 46 ∧ c ≠ 95 ∧ c ≠ 45) := by
 by_cases h : smallB c = true
 ·exact .inl h
 ·by_cases h1 : c = 47
  ·exact .inr (.inl h1)
  ·by_cases h2 : c = 46
   ·exact .inr (.inr (.inl h2))
   ·by_cases h3 : c = 95
    ·exact .inr (.inr (.inr (.inl h3)))
    ·by_cases h4 : c = 45
     ·exact .inr (.inr (.inr (.inr (.inl h4))))
     ·exact .inr (.inr (.inr (.inr (.inr ⟨by simpa using h, h1, h2, h3, h4⟩))))
end Go.Proofs.YtlhicfpmlncomaaGreatDoor

namespace Go.Proofs.YtlhicfpmlncomaaGreatDoor
open Go.RowKit
def findN (c : UInt8) : List UInt8 → Nat
 | [] => 0
 | d :: l => if d = c then 0 else findN c l + 1
theorem findN_le (c : UInt8) : ∀ l, findN c l ≤ l.length
 | [] => Nat.le_refl _
 | d :: l => by unfold findN; have := findN_le c l; split <;> simp <;> omega
theorem index_find (c : UInt8) : ∀ l : List UInt8, Lib.index l [c] = if findN c l < l.length then (findN c l : Int) else -1
 | [] => rfl
 | d :: l => by
  have ih := index_find c l
  unfold Lib.index findN
  by_cases h : d = c
  ·subst h
   rw [if_pos (by simp [List.isPrefixOf]), if_pos rfl, if_pos (by simp)]; rfl
  ·rw [if_neg (by simp [List.isPrefixOf]; exact fun e => h e.symm), if_neg h, ih]
   have := findN_le c l
   by_cases h2 : findN c l < l.length
   ·rw [if_pos h2, if_neg (by rw [beq_iff_eq]; omega), if_pos (by simpa using h2)]; simp
   ·rw [if_neg h2, if_pos (by rfl), if_neg (by simpa using h2)]
theorem cut_find (c : UInt8) (l : List UInt8) : Lib.cut l [c] = if findN c l < l.length then (l.take (findN c l), l.drop (findN c l + 1), true) else (l, [], false) := by
 unfold Lib.cut
 rw [index_find]
 by_cases h : findN c l < l.length
 ·rw [if_pos h, if_pos (by omega), if_pos h]; simp
 ·rw [if_neg h, if_neg (by omega), if_neg h]
theorem all_at {p : UInt8 → Bool} {l : List UInt8} (h : ∀ (j : Nat) c, l[j]? = some c → p c = true) : l.all p = true :=
 List.all_eq_true.2 fun c hc => by obtain ⟨j, hj⟩ := List.mem_iff_getElem?.1 hc; exact h j c hj
theorem all_not {p : UInt8 → Bool} {l : List UInt8} {k : Nat} {c : UInt8} (h : l[k]? = some c) (hc : p c = false) : l.all p = false := by
 cases ha : l.all p with
 | false => rfl
 | true => have := List.all_eq_true.1 ha c (List.mem_of_getElem? h); rw [hc] at this; cases this
/-! media types -/
def moreS : ByteArray := ⟨#[33, 35, 36, 38, 45, 94, 95, 46, 43]⟩
def moreB (c : UInt8) : Bool := moreS.data.toList.any (· == c)
theorem indexByte_any (c : UInt8) : ∀ l : List UInt8, decide (Lib.indexByte l c < 0) = !(l.any (· == c))
 | [] => rfl
 | d :: l => by
  have ih := indexByte_any c l
  have hge := Lib.indexByte_ge l c
  unfold Lib.indexByte
  rw [List.any_cons]
  by_cases h : (d == c) = true
  ·rw [if_pos h, h]; rfl
  ·have hf : (d == c) = false := by simpa using h
   rw [if_neg h, hf, Bool.false_or, ← ih]
   by_cases h2 : Lib.indexByte l c = -1
   ·rw [if_pos (beq_iff_eq.2 h2), h2]
   ·rw [if_neg (by rw [beq_iff_eq]; exact h2)]
    have h3 : ¬ Lib.indexByte l c < 0 := by omega
    have h4 : ¬ Lib.indexByte l c + 1 < 0 := by omega
    rw [decide_eq_false h3, decide_eq_false h4]
def restC (c : UInt8) : Bool := signB c || moreB c
def halfB : List UInt8 → Bool
 | [] => false
 | c :: l => signB c && l.all restC
def mediaB (l : List UInt8) : Bool := decide (findN 47 l < l.length) && decide (l.length ≤ 127) && (halfB (l.take (findN 47 l)) && halfB (l.drop (findN 47 l + 1)))
end Go.Proofs.YtlhicfpmlncomaaGreatDoor

namespace Go.Proofs.YtlhicfpmlncomaaGreatDoor
end Go.Proofs.YtlhicfpmlncomaaGreatDoor

namespace Go.Proofs.YtlhicfpmlncomaaGreatDoor
theorem hexv_hexd (x : UInt8) (h : x.toNat < 16) : hexv (hexd x) = some x := by
 have : ∀ n : Fin 16, hexv (hexd (UInt8.ofNat n.val)) = some (UInt8.ofNat n.val) := by decide +kernel
 have h2 := this ⟨x.toNat, h⟩
 simpa using h2
theorem hexd_hexv (c v : UInt8) (h : hexv c = some v) : hexd v = c ∧ v.toNat < 16 := by
 have : ∀ n : Fin 256, ((hexv (UInt8.ofNat n.val)).map (fun v => decide (hexd v = UInt8.ofNat n.val ∧ v.toNat < 16))).getD true = true := by decide +kernel
 have h2 := this ⟨c.toNat, c.toNat_lt⟩
 simp only [UInt8.ofNat_toNat] at h2
 rw [h] at h2
 exact of_decide_eq_true h2
theorem nib_back (d : UInt8) : 16 * (d / 16) + d % 16 = d := by
 have : ∀ n : Fin 256, 16 * (UInt8.ofNat n.val / 16) + UInt8.ofNat n.val % 16 = UInt8.ofNat n.val := by decide +kernel
 have h2 := this ⟨d.toNat, d.toNat_lt⟩
 simpa using h2
theorem nib_div (x y : UInt8) (hx : x.toNat < 16) (hy : y.toNat < 16) : (16 * x + y) / 16 = x ∧ (16 * x + y) % 16 = y := by
 have : ∀ n m : Fin 16, (16 * UInt8.ofNat n.val + UInt8.ofNat m.val) / 16 = UInt8.ofNat n.val ∧ (16 * UInt8.ofNat n.val + UInt8.ofNat m.val) % 16 = UInt8.ofNat m.val := by decide +kernel
 have h2 := this ⟨x.toNat, hx⟩ ⟨y.toNat, hy⟩
 simpa using h2
theorem unhex_hex : ∀ (l : List UInt8), unhexL (hexL l) = some l
 | [] => rfl
 | d :: l => by
  have h1 : (d / 16).toNat < 16 := by rw [UInt8.toNat_div]; have := d.toNat_lt; show d.toNat / 16 < 16; omega
  have h2 : (d % 16).toNat < 16 := by rw [UInt8.toNat_mod]; show d.toNat % 16 < 16; omega
  rw [hexL, unhexL, hexv_hexd _ h1, hexv_hexd _ h2, unhex_hex l]
  simp only []
  rw [nib_back]
theorem hex_unhex : ∀ (s r : List UInt8), unhexL s = some r → hexL r = s
 | [], r, h => by rw [unhexL] at h; injection h with h; subst h; rfl
 | [a], r, h => by rw [unhexL] at h; cases h
 | a :: b :: s, r, h => by
  rw [unhexL] at h
  cases ha : hexv a with
  | none => rw [ha] at h; cases h
  | some x =>
   cases hb : hexv b with
   | none => rw [ha, hb] at h; cases h
   | some y =>
    cases hs : unhexL s with
    | none => rw [ha, hb, hs] at h; cases h
    | some q =>
     rw [ha, hb, hs] at h
     injection h with h
     subst h
     have h1 := hexd_hexv a x ha
     have h2 := hexd_hexv b y hb
     have h3 := nib_div x y h1.2 h2.2
     rw [hexL, h3.1, h3.2, h1.1, h2.1, hex_unhex s q hs]
end Go.Proofs.YtlhicfpmlncomaaGreatDoor

namespace Go.Proofs.YtlhicfpmlncomaaGreatDoor
open Go.RowKit
def zeros : List UInt8 := List.replicate 32 0
theorem zeros_len : (zeros.map bv).length = 32 := by simp [zeros]
def sha7 : List UInt8 := [115, 104, 97, 50, 53, 54, 58]
def dgT (d : List UInt8) : List UInt8 := sha7 ++ hexL d
def dgP (l : List UInt8) : Option (List UInt8) := if l.length = 71 ∧ l.take 7 = sha7 then unhexL (l.drop 7) else none
theorem hexL_len2 : ∀ l : List UInt8, (hexL l).length = 2 * l.length
 | [] => rfl
 | d :: l => by rw [hexL]; simp [hexL_len2 l]; omega
theorem dgP_len {l d : List UInt8} (h : dgP l = some d) : d.length = 32 := by
 unfold dgP at h
 split at h
 ·rename_i hh
  have h1 := hex_unhex _ _ h
  have h2 := hexL_len2 d
  rw [h1, List.length_drop, hh.1] at h2
  omega
 ·cases h
theorem dgP_T {d : List UInt8} (h : d.length = 32) : dgP (dgT d) = some d := by
 unfold dgP dgT
 rw [if_pos ⟨by rw [List.length_append, hexL_len2, h]; rfl, by rw [List.take_append_of_le_length (by simp [sha7])]; rfl⟩, List.drop_append_of_le_length (by simp [sha7])]
 exact unhex_hex d
theorem dgP_no1 {l : List UInt8} (h : l.length ≠ 71) : dgP l = none := by unfold dgP; rw [if_neg (fun hh => h hh.1)]
theorem dgP_no2 {l : List UInt8} (h : l.take 7 ≠ sha7) : dgP l = none := by unfold dgP; rw [if_neg (fun hh => h hh.2)]
theorem dgP_yes {l : List UInt8} (h : l.length = 71) (h2 : l.take 7 = sha7) : dgP l = unhexL (l.drop 7) := by unfold dgP; rw [if_pos ⟨h, h2⟩]
end Go.Proofs.YtlhicfpmlncomaaGreatDoor

namespace Go.Proofs.YtlhicfpmlncomaaGreatDoor
set_option linter.unusedSimpArgs false
/-- A note, a descriptor, a document. -/
structure MNote where
 key : List UInt8
 val : List UInt8
structure MDesc where
 media : List UInt8
 dig : List UInt8
 size : Int
 notes : List MNote
structure MDoc where
 media : List UInt8
 type : List UInt8
 config : MDesc
 edges : List MDesc
 subject : MDesc
 has : Bool
 notes : List MNote
def MDesc.zero : MDesc := ⟨[], zeros, 0, []⟩
def MDoc.zero : MDoc := ⟨[], [], .zero, [], .zero, false, []⟩
/-- What is wrong: a number. -/
abbrev MR (α : Type) := Except Nat α
/-- "mediaType" and the like. -/
def kMedia : List UInt8 := [109, 101, 100, 105, 97, 84, 121, 112, 101]
def kDigest : List UInt8 := [100, 105, 103, 101, 115, 116]
def kSize : List UInt8 := [115, 105, 122, 101]
def kNotes : List UInt8 := [97, 110, 110, 111, 116, 97, 116, 105, 111, 110, 115]
def kVersion : List UInt8 := [115, 99, 104, 101, 109, 97, 86, 101, 114, 115, 105, 111, 110]
def kType : List UInt8 := [97, 114, 116, 105, 102, 97, 99, 116, 84, 121, 112, 101]
def kConfig : List UInt8 := [99, 111, 110, 102, 105, 103]
def kLayers : List UInt8 := [108, 97, 121, 101, 114, 115]
def kManifests : List UInt8 := [109, 97, 110, 105, 102, 101, 115, 116, 115]
def kSubject : List UInt8 := [115, 117, 98, 106, 101, 99, 116]
/-- "application/vnd.oci.image.manifest.v1+json", "application/vnd.oci.image.index.v1+json". -/
def sImage : List UInt8 := [97, 112, 112, 108, 105, 99, 97, 116, 105, 111, 110, 47, 118, 110, 100, 46, 111, 99, 105, 46, 105, 109, 97, 103, 101, 46, 109, 97, 110, 105, 102, 101, 115, 116, 46, 118, 49, 43, 106, 115, 111, 110]
def sIndex : List UInt8 := [97, 112, 112, 108, 105, 99, 97, 116, 105, 111, 110, 47, 118, 110, 100, 46, 111, 99, 105, 46, 105, 109, 97, 103, 101, 46, 105, 110, 100, 101, 120, 46, 118, 49, 43, 106, 115, 111, 110]
def mText (v : JV) : MR (List UInt8) := if v.kind = 4 then .ok v.text else .error 80
def mMedia (v : JV) : MR (List UInt8) := if v.kind = 4 then (if mediaB v.text = true then .ok v.text else .error 72) else .error 80
/-- The notes that members are. -/
def mNotesL : List (List UInt8) → List JV → MR (List MNote)
 | n :: ns, k :: ks => if k.kind = 4 then (match mNotesL ns ks with | .ok l => .ok (⟨n, k.text⟩ :: l) | .error e => .error e) else .error 80
 | _, _ => .ok []
def mNotes (v : JV) : MR (List MNote) :=
 if v.kind = 6 then (if 32 < v.kids.length then .error 8 else mNotesL v.names v.kids) else .error 80
/-- Which members a descriptor had. -/
structure MHad where
 a : Bool
 b : Bool
 c : Bool
/-- A descriptor takes a member in. -/
def mdStep (d : MDesc) (h : MHad) (n : List UInt8) (k : JV) : MR (MDesc × MHad) :=
 if n = kMedia then (match mMedia k with | .ok s => .ok ({ d with media := s }, { h with a := true }) | .error e => .error e)
 else if n = kDigest then (if k.kind = 4 then (match dgP k.text with | some x => .ok ({ d with dig := x }, { h with b := true }) | none => .error 20) else .error 80)
 else if n = kSize then (if k.kind = 3 then (if k.num < 0 ∨ 1099511627776 < k.num then .error 81 else .ok ({ d with size := k.num }, { h with c := true })) else .error 80)
 else if n = kNotes then (match mNotes k with | .ok l => .ok ({ d with notes := l }, h) | .error e => .error e)
 else .error 80
def mDescL : MDesc → MHad → List (List UInt8) → List JV → MR MDesc
 | d, h, n :: ns, k :: ks => match mdStep d h n k with
  | .ok (d', h') => mDescL d' h' ns ks
  | .error e => .error e
 | d, h, _, _ => if h.a = true ∧ h.b = true ∧ h.c = true then .ok d else .error 80
def mDesc (v : JV) : MR MDesc := if v.kind = 6 then mDescL .zero ⟨false, false, false⟩ v.names v.kids else .error 80
def mEdgesL : List JV → MR (List MDesc)
 | [] => .ok []
 | k :: ks => match mDesc k with
  | .ok d => (match mEdgesL ks with | .ok l => .ok (d :: l) | .error e => .error e)
  | .error e => .error e
def mEdges (v : JV) : MR (List MDesc) := if v.kind = 5 then (if 64 < v.kids.length then .error 8 else mEdgesL v.kids) else .error 80
/-- Which members a document had: its version, its media type, a config, layers, manifests. -/
structure MGot where
 v : Bool
 m : Bool
 c : Bool
 l : Bool
 i : Bool
/-- A document takes a member in. -/
def mStep (d : MDoc) (h : MGot) (n : List UInt8) (k : JV) : MR (MDoc × MGot) :=
 if n = kVersion then (if k.kind = 3 ∧ k.num = 2 then .ok (d, { h with v := true }) else .error 80)
 else if n = kMedia then (if k.kind = 4 then (if k.text = sImage ∨ k.text = sIndex then .ok ({ d with media := k.text }, { h with m := true }) else .error 72) else .error 80)
 else if n = kType then (match mMedia k with | .ok s => .ok ({ d with type := s }, h) | .error e => .error e)
 else if n = kConfig then (match mDesc k with | .ok x => .ok ({ d with config := x }, { h with c := true }) | .error e => .error e)
 else if n = kLayers then (match mEdges k with | .ok x => .ok ({ d with edges := x }, { h with l := true }) | .error e => .error e)
 else if n = kManifests then (match mEdges k with | .ok x => .ok ({ d with edges := x }, { h with i := true }) | .error e => .error e)
 else if n = kSubject then (match mDesc k with | .ok x => .ok ({ d with subject := x, has := true }, h) | .error e => .error e)
 else if n = kNotes then (match mNotes k with | .ok l => .ok ({ d with notes := l }, h) | .error e => .error e)
 else .error 80
/-- Had the document what it must have? -/
def mWhole (d : MDoc) (h : MGot) : Bool := if d.media = sIndex then h.v && (h.m && (!h.c && (!h.l && h.i))) else h.v && (h.m && (h.c && (h.l && !h.i)))
def mReadL : MDoc → MGot → List (List UInt8) → List JV → MR MDoc
 | d, h, n :: ns, k :: ks => match mStep d h n k with
  | .ok (d', h') => mReadL d' h' ns ks
  | .error e => .error e
 | d, h, _, _ => if mWhole d h = true then .ok d else .error 80
def mRead (v : JV) : MR MDoc := if v.kind = 6 then mReadL .zero ⟨false, false, false, false, false⟩ v.names v.kids else .error 80
/-- The document that bytes are. -/
def mParse (b : List UInt8) : MR MDoc := match jParse b with
 | .ok v => mRead v
 | .error x => .error x.2
end Go.Proofs.YtlhicfpmlncomaaGreatDoor

namespace Go.Proofs.YtlhicfpmlncomaaGreatDoor
open Go.RowKit
/-- How a reading ends: what is told, and the reader; or a fault, and nothing but the reader and what is new has changed. -/
def JPost {α : Type} (w : World) (g : Nat) (r : JR α) (ret : α → Ending) (st : α → List Value) (e : Ending) (w' : World) : Prop :=
 match r with
 | .ok a => e = ret a ∧ Fr [g] w w' [.blk g 127 (st a)]
 | .error x => e = flt x ∧ w.grownBy w' (some g)
theorem jWord_le {b : List UInt8} : ∀ {l : List UInt8} {p q : Nat}, jWord b l p = .ok q → q = p + l.length ∧ (l = [] ∨ q ≤ b.length)
 | [], p, q, h => by injection h with h; subst h; exact ⟨rfl, .inl rfl⟩
 | c :: l, p, q, h => by
  unfold jWord at h
  cases hx : b[p]? with
  | none => rw [hx] at h; cases h
  | some x =>
   rw [hx] at h
   simp only [] at h
   split at h
   ·obtain ⟨h1, h2⟩ := jWord_le h
    have hp := (List.getElem?_eq_some_iff.1 hx).1
    refine ⟨by rw [h1, List.length_cons]; omega, .inr ?_⟩
    rcases h2 with rfl | h2
    ·rw [h1, List.length_nil]; omega
    ·exact h2
   ·cases h
set_option maxRecDepth 20000 in
set_option maxHeartbeats 3200000 in
theorem word_any (g : Nat) (A : Option Addr) (n c p m B : Nat) (b : List UInt8) (s : ByteArray) (w : World) (hh : w.heap[g]? = some (.cells (rdrL A n c p m).toArray 127 (0, 0))) (hg : B ≤ g) (hB : B ≤ w.heap.size) (hn : n ≤ 140737488355000) (hp : p ≤ n) (hs : s.size ≤ 1000) (hr : Rd w (· < B) A 1 n (b.map bv)) :
  Calls Tryz.prog 86 #[.pointer (some ⟨g, 0, none⟩), .string s] w (JPost w g (jWord b s.data.toList p) (fun _ => .returned (.tuple #[])) (fun q => rdrL A n c q m)) := by
 have hl := box hr.bytes_len
 have hF0 := Fr.one hh
 clear hh
 go_enter Tryz.func86, Tryz.ntmps86
 go_wp2_with fail
 go_loopg [7] s.size (fun k i wr => ∃ j p' : Nat, j ≤ s.size ∧ Box (k = s.size - j) ∧ i = .int .i64 (j : Int) ∧ p' ≤ n ∧ Box (jWord b s.data.toList p = jWord b (s.data.toList.drop j) p') ∧ Fr [g] w wr [.blk g 127 (rdrL A n c p' m)])
 case atStart => exact ⟨0, p, by omega, box rfl, rfl, hp, box rfl, hF0⟩
 case round =>
  obtain ⟨j, p', hj, hk, rfl, hpj, hw, hF⟩ := hrel
  clear hF0
  by_cases hlt : j < s.size
  ·obtain ⟨y, hy⟩ : ∃ y, s.data.toList[j]? = some y := ⟨s.data.toList[j]'hlt, by simp⟩
   have hdr : s.data.toList.drop j = y :: s.data.toList.drop (j + 1) := by
    rw [List.drop_eq_getElem_cons (by exact hlt), (List.getElem?_eq_some_iff.1 hy).2]
   have hyb := y.toNat_lt
   cases hx : b[p']? with
   | some x =>
    have hxb := x.toNat_lt
    have hnx := box (next_q hx (hF.blk (i := 0) rfl) (hF.rdB hg hB hr))
    have hplt := (List.getElem?_eq_some_iff.1 hx).1
    rw [hl.out] at hplt
    have hsj : s[j] = y := (List.getElem?_eq_some_iff.1 hy).2
    by_cases hxy : x = y
    ·have hq : ((x.toNat : Int) != (y.toNat : Int)) = false := by rw [hxy]; simp
     have hgo : Box (jWord b s.data.toList p = jWord b (s.data.toList.drop (j + 1)) (p' + 1)) := box (by
      rw [hw.out, hdr, jWord, hx]; simp only []; rw [if_pos hxy])
     replace hx := box hx
     replace hxy := box hxy
     clear hy hdr
     go_wp2
     go_quiet (exact hnx.out _)
     have hFd := hF.drewN nq
     have h1 := rdr_p (hFd.blk (i := 0) rfl)
     go_wp2_with (first | ((with_reducible refine lsx (wp_fst0 hFd (by with_unfolding_all exact ⟨_, _, rfl, rfl, rfl⟩) (by kernel_rfl) rfl rfl (by rw [rdrL_len]; decide) (rdrL_at (v := (p' : Int) + 1) (q := p' + 1) (by omega)) ?_)); intro w2 hF2 hz2))
     go_roundg (s.size - (j + 1))
     case rel => exact ⟨j + 1, p' + 1, by omega, box rfl, by go_num, by omega, hgo, hF2⟩
     case measure => have := hk.out; omega
    ·have hq : ((x.toNat : Int) != (y.toNat : Int)) = true := by
      rw [bne_iff_ne]; intro h; exact hxy (UInt8.toNat_inj.1 (by omega))
     have hend : Box (jWord b s.data.toList p = .error (p', 10)) := box (by
      rw [hw.out, hdr, jWord, hx]; simp only []; rw [if_neg hxy])
     replace hx := box hx
     replace hxy := box hxy
     clear hy hdr
     go_wp2
     go_quiet (exact hnx.out _)
     have hFd := hF.drewN nq
     have h1 := rdr_p (hFd.blk (i := 0) rfl)
     have hfl := box (fun v w => fail_any v p' 10 w)
     go_wp2_with fail
     refine (hfl.out _ _).mono ?_
     rintro e w2 ⟨rfl, rfl⟩
     dsimp only [flt]
     go_wp2
     exact ⟨rfl, by unfold JPost; rw [hend.out]; exact ⟨rfl, hFd.grown⟩⟩
   | none =>
    have hend : Box (jWord b s.data.toList p = .error (n, 9)) := box (by
     rw [hw.out, hdr, jWord, hx, hl.out])
    have hnx := box (fun w' (hF : Fr [g] w w' [.blk g 127 (rdrL A n c p' m)]) => next_x hx (hF.blk (i := 0) rfl) (hF.rdB hg hB hr))
    rw [hl.out] at hnx
    replace hx := box hx
    clear hy hdr
    go_wp2
    have hFd := hF.drew
    refine wp_region_held (S := fun _ => True) (by kernel_rfl) ?_
    change wpAnyH _ _ _ _ _ _ _ _ (World.drew _)
    refine tkp 0 trivial ?_
    (try simp only [zP, zQ, zS, zZ, zN])
    refine tkp 2 trivial ?_
    (try simp only [zP, zQ, zS, zZ, zN])
    refine tkp 3 trivial ?_
    (try simp only [zP, zQ, zS, zZ, zN])
    refine tkp 4 trivial ?_
    (try simp only [zP, zQ, zS, zZ, zN])
    refine rdy1 1 (fun K hK => ?_)
    refine stp (by with_unfolding_all rfl) (wp_callP Tryz.func85 rfl (by with_unfolding_all rfl) (by with_unfolding_all rfl) (by with_unfolding_all rfl) (hnx.out _ hFd) ?_)
    rintro e w11 ⟨rfl, hb11⟩
    refine ⟨_, rfl, ?_⟩
    have hF11 := hFd.call hb11
    (try simp only [Exit.inBlock, Exit.then])
    exact ⟨rfl, by unfold JPost; rw [hend.out]; exact ⟨rfl, hF11.grown⟩⟩
  ·have hend : Box (jWord b s.data.toList p = .ok p') := box (by
    rw [hw.out, List.drop_of_length_le (by rw [str_len]; omega), jWord])
   go_wp2
   go_end0
   unfold JPost
   rw [hend.out]
   exact ⟨rfl, hF⟩
end Go.Proofs.YtlhicfpmlncomaaGreatDoor

namespace Go.Proofs.YtlhicfpmlncomaaGreatDoor
open Go.RowKit
theorem hex_or (N d : Nat) (hN : N < 65536) (hd : d < 16) : bits BinOp.or IntKind.i32 ((N : Int) * 16) (d : Int) = ((16 * N + d : Nat) : Int) := by
 rw [show ((N : Int) * 16) = ((N * 16 : Nat) : Int) by push_cast; rfl]
 show IntKind.i32.wrap ((BitVec.ofInt 32 ((N * 16 : Nat) : Int) ||| BitVec.ofInt 32 (d : Int)).toNat : Int) = _
 have h3 : N * 16 ||| d = 16 * N + d := by
  rw [Nat.mul_comm N 16]
  exact (Nat.two_pow_add_eq_or_of_lt (i := 4) (by omega) N).symm
 rw [BitVec.toNat_or, ofInt_u32 _ (by omega), ofInt_u32 d (by omega), h3]
 exact wrap_i32_small _ (by omega) (by omega)
theorem jUnit_lt {b : List UInt8} {start : Nat} : ∀ {k N p x : Nat} {j : Nat}, N < 16 ^ j → jUnit b start k N p = .ok x → x < 16 ^ (j + k) ∧ (k = 0 ∨ p + k ≤ b.length)
 | 0, N, p, x, j, hN, h => by injection h with h; subst h; exact ⟨hN, .inl rfl⟩
 | k + 1, N, p, x, j, hN, h => by
  unfold jUnit at h
  cases hx : b[p]? with
  | none => rw [hx] at h; cases h
  | some c =>
   rw [hx] at h
   simp only [] at h
   cases hd : jHex c with
   | none => rw [hd] at h; cases h
   | some d =>
    rw [hd] at h
    simp only [] at h
    have hd16 : d < 16 := by
     unfold jHex at hd
     split at hd
     ·injection hd; omega
     ·split at hd
      ·injection hd; omega
      ·split at hd
       ·injection hd; omega
       ·cases hd
    have hp := (List.getElem?_eq_some_iff.1 hx).1
    obtain ⟨h1, h2⟩ := jUnit_lt (j := j + 1) (by rw [Nat.pow_succ]; omega) h
    refine ⟨by rw [show j + (k + 1) = j + 1 + k by omega]; exact h1, .inr ?_⟩
    rcases h2 with rfl | h2 <;> omega
set_option maxRecDepth 20000 in
set_option maxHeartbeats 3200000 in
theorem unit_any (g : Nat) (A : Option Addr) (n c p m B from_ : Nat) (b : List UInt8) (w : World) (hh : w.heap[g]? = some (.cells (rdrL A n c p m).toArray 127 (0, 0))) (hg : B ≤ g) (hB : B ≤ w.heap.size) (hn : n ≤ 140737488355000) (hp : p ≤ n) (hr : Rd w (· < B) A 1 n (b.map bv)) :
  Calls Tryz.prog 132 #[.pointer (some ⟨g, 0, none⟩), .int .i64 (from_ : Int)] w (JPost w g (jUnit b from_ 4 0 p) (fun x => .returned (.int .i32 (x : Int))) (fun _ => rdrL A n c (p + 4) m)) := by
 have hl := box hr.bytes_len
 have hF0 := Fr.one hh
 clear hh
 go_enter Tryz.func132, Tryz.ntmps132
 go_wp2_with fail
 go_loopg [5, 7] 4 (fun k x i wr => ∃ j N p' : Nat, j ≤ 4 ∧ k = 4 - j ∧ x = .int .i32 (N : Int) ∧ N < 16 ^ j ∧ i = .int .i64 (j : Int) ∧ p' = p + j ∧ p' ≤ n ∧ Box (jUnit b from_ 4 0 p = jUnit b from_ (4 - j) N p') ∧ Fr [g] w wr [.blk g 127 (rdrL A n c p' m)])
 case atStart => exact ⟨0, 0, p, by omega, rfl, rfl, by decide, rfl, rfl, hp, box rfl, hF0⟩
 case round =>
  obtain ⟨j, N, p', hj, hk, rfl, hN, rfl, hpp, hpn, hw, hF⟩ := hrel
  clear hF0
  by_cases hlt : j < 4
  ·cases hx : b[p']? with
   | some x =>
    have hxb := x.toNat_lt
    have hnx := box (next_q hx (hF.blk (i := 0) rfl) (hF.rdB hg hB hr) 0)
    have hplt := (List.getElem?_eq_some_iff.1 hx).1
    rw [hl.out] at hplt
    replace hk := box hk
    replace hpp := box hpp
    have hN2 : N < 65536 := by
     have : 16 ^ j ≤ 16 ^ 4 := Nat.pow_le_pow_right (by decide) hj
     omega
    by_cases h0 : 48 ≤ x.toNat ∧ x.toNat ≤ 57
    ·obtain ⟨d, hd, hdx⟩ : ∃ d, d < 16 ∧ x.toNat = d + 48 := ⟨x.toNat - 48, by omega, by omega⟩
     obtain ⟨N', hN'⟩ : ∃ N', N' = 16 * N + d := ⟨_, rfl⟩
     have hor : bits BinOp.or IntKind.i32 ((N : Int) * 16) ((x.toNat : Int) - 48) = (N' : Int) := by
      rw [show (x.toNat : Int) - 48 = (d : Int) by omega, hN']
      exact hex_or N d hN2 hd
     have hjh : jHex x = some d := by unfold jHex; rw [if_pos (by omega)]; exact congrArg some (by omega)
     have hgo : Box (jUnit b from_ 4 0 p = jUnit b from_ (4 - (j + 1)) N' (p' + 1)) := box (by
      rw [hw.out, show 4 - j = (4 - (j + 1)) + 1 by omega, jUnit, hx]; simp only []; rw [hjh, hN'])
     have hN16 : N' < 16 ^ (j + 1) := by rw [Nat.pow_succ]; omega
     clear hdx hN' hjh hx
     go_wp2_with fail
     refine (hnx.out).mono ?_
     rintro e w1 ⟨rfl, q1, rfl⟩
     have hFd := hF.drewN q1
     have hc1 := rdr_p (hFd.blk (i := 0) rfl)
     go_wp2_with (first | ((with_reducible refine lsx (wp_fst0 hFd (by with_unfolding_all exact ⟨_, _, rfl, rfl, rfl⟩) (by kernel_rfl) rfl rfl (by rw [rdrL_len]; decide) (rdrL_at (v := (p' : Int) + 1) (q := p' + 1) (by omega)) ?_)); intro w2 hF2 hz2))
     go_roundg (4 - (j + 1))
     case rel => exact ⟨j + 1, N', p' + 1, by omega, rfl, rfl, hN16, by go_num, by have := hpp.out; omega, by omega, hgo, hF2⟩
     case measure => have := hk.out; omega
    ·by_cases h1 : 97 ≤ x.toNat ∧ x.toNat ≤ 102
     ·obtain ⟨d, hd, hdx⟩ : ∃ d, d < 16 ∧ x.toNat = d + 87 := ⟨x.toNat - 87, by omega, by omega⟩
      obtain ⟨N', hN'⟩ : ∃ N', N' = 16 * N + d := ⟨_, rfl⟩
      have hor : bits BinOp.or IntKind.i32 ((N : Int) * 16) ((x.toNat : Int) - 97 + 10) = (N' : Int) := by
       rw [show (x.toNat : Int) - 97 + 10 = (d : Int) by omega, hN']
       exact hex_or N d hN2 hd
      have hjh : jHex x = some d := by unfold jHex; rw [if_neg (by omega)]; rw [if_pos (by omega)]; exact congrArg some (by omega)
      have hgo : Box (jUnit b from_ 4 0 p = jUnit b from_ (4 - (j + 1)) N' (p' + 1)) := box (by
       rw [hw.out, show 4 - j = (4 - (j + 1)) + 1 by omega, jUnit, hx]; simp only []; rw [hjh, hN'])
      have hN16 : N' < 16 ^ (j + 1) := by rw [Nat.pow_succ]; omega
      clear hdx hN' hjh hx
      go_wp2_with fail
      refine (hnx.out).mono ?_
      rintro e w1 ⟨rfl, q1, rfl⟩
      have hFd := hF.drewN q1
      have hc1 := rdr_p (hFd.blk (i := 0) rfl)
      go_wp2_with (first | ((with_reducible refine lsx (wp_fst0 hFd (by with_unfolding_all exact ⟨_, _, rfl, rfl, rfl⟩) (by kernel_rfl) rfl rfl (by rw [rdrL_len]; decide) (rdrL_at (v := (p' : Int) + 1) (q := p' + 1) (by omega)) ?_)); intro w2 hF2 hz2))
      go_roundg (4 - (j + 1))
      case rel => exact ⟨j + 1, N', p' + 1, by omega, rfl, rfl, hN16, by go_num, by have := hpp.out; omega, by omega, hgo, hF2⟩
      case measure => have := hk.out; omega
     ·by_cases h2 : 65 ≤ x.toNat ∧ x.toNat ≤ 70
      ·obtain ⟨d, hd, hdx⟩ : ∃ d, d < 16 ∧ x.toNat = d + 55 := ⟨x.toNat - 55, by omega, by omega⟩
       obtain ⟨N', hN'⟩ : ∃ N', N' = 16 * N + d := ⟨_, rfl⟩
       have hor : bits BinOp.or IntKind.i32 ((N : Int) * 16) ((x.toNat : Int) - 65 + 10) = (N' : Int) := by
        rw [show (x.toNat : Int) - 65 + 10 = (d : Int) by omega, hN']
        exact hex_or N d hN2 hd
       have hjh : jHex x = some d := by unfold jHex; rw [if_neg (by omega)]; rw [if_neg (by omega)]; rw [if_pos (by omega)]; exact congrArg some (by omega)
       have hgo : Box (jUnit b from_ 4 0 p = jUnit b from_ (4 - (j + 1)) N' (p' + 1)) := box (by
        rw [hw.out, show 4 - j = (4 - (j + 1)) + 1 by omega, jUnit, hx]; simp only []; rw [hjh, hN'])
       have hN16 : N' < 16 ^ (j + 1) := by rw [Nat.pow_succ]; omega
       clear hdx hN' hjh hx
       go_wp2_with fail
       refine (hnx.out).mono ?_
       rintro e w1 ⟨rfl, q1, rfl⟩
       have hFd := hF.drewN q1
       have hc1 := rdr_p (hFd.blk (i := 0) rfl)
       go_wp2_with (first | ((with_reducible refine lsx (wp_fst0 hFd (by with_unfolding_all exact ⟨_, _, rfl, rfl, rfl⟩) (by kernel_rfl) rfl rfl (by rw [rdrL_len]; decide) (rdrL_at (v := (p' : Int) + 1) (q := p' + 1) (by omega)) ?_)); intro w2 hF2 hz2))
       go_roundg (4 - (j + 1))
       case rel => exact ⟨j + 1, N', p' + 1, by omega, rfl, rfl, hN16, by go_num, by have := hpp.out; omega, by omega, hgo, hF2⟩
       case measure => have := hk.out; omega
      ·
        have hjh : jHex x = none := by unfold jHex; rw [if_neg (by omega), if_neg (by omega), if_neg (by omega)]
        have hend : Box (jUnit b from_ 4 0 p = .error (from_, 62)) := box (by
         rw [hw.out, show 4 - j = (4 - (j + 1)) + 1 by omega, jUnit, hx]; simp only []; rw [hjh])
        have hfl := box (fun v w => fail_any v from_ 62 w)
        clear hjh hx
        go_wp2_with fail
        refine (hnx.out).mono ?_
        rintro e w1 ⟨rfl, q1, rfl⟩
        have hFd := hF.drewN q1
        go_wp2_with fail
        all_goals
         refine (hfl.out _ _).mono ?_
         rintro e w2 ⟨rfl, rfl⟩
         dsimp only [flt]
         go_wp2
         exact ⟨rfl, by unfold JPost; rw [hend.out]; exact ⟨rfl, hFd.grown⟩⟩
   | none =>
    have hend : Box (jUnit b from_ 4 0 p = .error (n, 9)) := box (by
     rw [hw.out, show 4 - j = (4 - (j + 1)) + 1 by omega, jUnit, hx, hl.out])
    have hnx := box (next_x hx (hF.blk (i := 0) rfl) (hF.rdB hg hB hr))
    rw [hl.out] at hnx
    clear hx
    go_wp2_with fail
    refine (hnx.out).mono ?_
    rintro e w1 ⟨rfl, hb1⟩
    have hFd := hF.call hb1
    dsimp only [flt]
    go_wp2
    exact ⟨rfl, by unfold JPost; rw [hend.out]; exact ⟨rfl, hFd.grown⟩⟩
  ·obtain rfl : j = 4 := by omega
   have hend : Box (jUnit b from_ 4 0 p = .ok N) := box (by rw [hw.out]; rfl)
   have hpe : Box (p' = p + 4) := box hpp
   clear hpp hk
   go_wp2
   go_ret
   unfold JPost
   rw [hend.out]
   exact ⟨rfl, by rw [← hpe.out]; exact hF⟩
end Go.Proofs.YtlhicfpmlncomaaGreatDoor

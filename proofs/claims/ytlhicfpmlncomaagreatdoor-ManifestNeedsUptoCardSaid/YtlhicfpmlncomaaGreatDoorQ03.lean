/-
 Laws over a frame of known blocks, for regions that draw their order: a call met by its contract; entries picked out. No program is named here.
 Laws over a frame of known blocks, for slices of any elements: appends, elements of several cells, literals of one element. No program is named here.
 Frames of known blocks, joined: what a call hands back in blocks of its own. No program is named here.
 Regions that draw their order and only read: the place of an element, its cell, its cells. Texts are compared. No program is named here.
 Layer 6: the program's reader: its words; faults; the next byte.
 Steps through regions that draw their order, in few words. No program is named here.
 Layer 6: the program's reader: blanks, words.
 Layer 6: the program's reader: words.
 Layer 6: the program's reader: four digits of an escape.
-/
import Derived.Test.YtlhicfpmlncomaaGreatDoorQ02
import Derived.Deep.RegionHeld3
import Derived.Test.YtlhicfpmlncomaaGreatDoorQ01
import Derived.Deep.QuietTactic
import Derived.BigQuiet
import Derived.Deep.LoopGhost
import Derived.Deep.DeepCutAuto
import Derived.Laws.DeepBits32
namespace Go.Proofs.YtlhicfpmlncomaaGreatDoor
open Go.RowKit
section
variable {X : List Nat} {w0 w : World} {es : List Ent}
end
section
variable {P : Program} {o : Oper} {a : Act} {w : World} {K : Act → World → Prop} {Q : Exit → Act → World → Prop}
/-- A call, met by its contract. -/
theorem wp_call {f : FuncId} {fn : Func} {args : Array Operand} {ts : Array TypeId} {vs : Array Value} (hf : P.funcs[f]? = some fn) (hb : fn.body.isNone = false) (hn : (fn.name == "runtime.NumGoroutine") = false)
  (ho : o.op = .call { callee := .value (.func f), args := args, argTypes := ts }) (hv : args.map a.eval = vs) {R : Ending → World → Prop} (hc : Calls P f vs w R) (k : ∀ e w', R e w' → ∃ v, e = .returned v ∧ K (a.put o.dst v) w') : o.wp P a w K Q := by
 have hrun : (execOp a.eval o).run P w = .ok (.enter f vs) w := by
  unfold execOp
  have hn' : ¬ fn.name = "runtime.NumGoroutine" := by simpa using hn
  have hb' : ¬ fn.body = none := by
   intro h
   rw [h] at hb
   cases hb
  simp only [ho, resolve, Act.eval, Deferred.ofValue, invoke, callFunc, Sem.run_bind, Sem.run_pure, Result.andThen_ok, run_program, hf, ← hv]
  simp [hn', hb']
 unfold Oper.wp
 rw [hrun, Oper.upon_enter]
 refine hc.mono fun e w' hR => ?_
 obtain ⟨v, rfl, hK⟩ := k e w' hR
 exact hK
end
end Go.Proofs.YtlhicfpmlncomaaGreatDoor

namespace Go.Proofs.YtlhicfpmlncomaaGreatDoor
open Go.RowKit
section laws
variable {P : Program} {o : Oper} {a : Act} {X : List Nat} {w0 w : World} {es : List Ent} {K : Act → World → Prop} {Q : Exit → Act → World → Prop}
/-- Elements appended to a slice that the call owns. -/
theorem wp_fappG {sl e : TypeId} {size bytes : Nat} {z : Value} (T : SlT P sl e size bytes z) (hF : Fr X w0 w es) {i b : Nat} {v : Value} {n : Nat} {xs : List Value} (hi : es[i]? = some (.own b e size v n xs)) (hb : b ≤ w0.heap.size) {S : Nat → Prop} {A : Option Addr} {m c : Nat} {news : List Value} (hr : Rd w S A size m news) (h1 : ∀ u ∈ news, u.oneCell' = true)
  (ho : IsApp o a sl v (.slice A m c)) (h63 : n + m ≤ maxLen) (hbytes : (n + m) * bytes ≤ 140737488355328)
  (k : ∀ v' w', Fr X w0 w' (es.set i (.own b e size v' (n + m) (xs ++ news))) → w.heap.size ≤ w'.heap.size → K (a.put o.dst v') w') : o.wp P a w K Q := by
 have hown : w.ownsRow b e size v n xs := hF.holds i _ hi
 have hbw : b ≤ w.heap.size := Nat.le_trans hb hF.size
 refine wp_app T hown hr ho h1 h63 hbytes hbw fun v' w' h2 h3 h4 => k v' w' (hF.put hi h3 h2 (h4.imp id fun h b hb => ?_)) h3.size
 have hb : v'.ownBlock = some b := hb
 rw [h] at hb; injection hb with hb; omega
/-- An element of several cells is read. -/
theorem wp_loadA {S : Nat → Prop} {A : Option Addr} {n size : Nat} {xs : List Value} (hr : Rd w S A size n xs) {e : TypeId} {j : Nat} {d : TypeDesc} (hu : P.underlying e = some d) (hd : aggT d = true) (ho : IsLd o a e (atp A j)) {ds : List Value} (hs : (P.info? e).map (·.size) = some ds.length)
  (hc : (xs.drop j).take ds.length = ds) (k : K (a.put o.dst (.agg ds.toArray)) w) : o.wp P a w K Q := by
 obtain ⟨x, ho, hx⟩ := ho
 have hagg := run_isAgg hu w
 rw [hd] at hagg
 obtain ⟨i, hi, hsz⟩ := Option.map_eq_some_iff.1 hs
 have hl : (loadCells (atp A j) ds.length).run P w = .ok ds.toArray w := run_loadCells_list (P := P) w (atp A j) ds (fun q v hv => by
  unfold atp
  rw [add_add]
  refine hr.cell (j + q) v ?_
  rw [← hc, List.getElem?_take] at hv
  split at hv
  ·rw [List.getElem?_drop] at hv; exact hv
  ·cases hv)
 refine wp_run (v := .agg ds.toArray) (w' := w) ?_ k
 unfold execOp
 simp [ho, hx, Instr.loadAt, Instr.sureAddr, loadVar, hagg, sizeOf, typeInfo, hi, hsz, hl]
/-- A slice literal of one element of several cells. -/
theorem wp_fbs1 {sl e : TypeId} {size bytes : Nat} {z : Value} (T : SlT P sl e size bytes z) (hF : Fr X w0 w es) {x : Operand} (ho : o.op = .buildSlice sl 1 #[(0, x)]) {ds : List Value} (hx : (a.eval x).cells = ds.toArray) (hds : ds.length = size) (h16 : size ≤ 16777216)
  (k : ∀ w' g, Fr X w0 w' (.own w0.heap.size e size (.slice (some ⟨g, 0, none⟩) 1 1) 1 ds :: es) → w'.heap.size = w.heap.size + 1 → K (a.put o.dst (.slice (some ⟨g, 0, none⟩) 1 1)) w') : o.wp P a w K Q := by
 obtain ⟨i, hi, hz, hs, hby⟩ := info_parts T.info
 have hzc : (zeroValue e).run P w = .ok z w := by simp [zeroValue, typeInfo, hi, hz]
 have hsz : (sizeOf e).run P w = .ok size w := by simp [sizeOf, typeInfo, hi, hs]
 have hown : (w.alloc (.cells ds.toArray e)).ownsRow w0.heap.size e size (.slice (some ⟨w.heap.size, 0, none⟩) 1 1) 1 ds := by
  have := World.ownsRow_lit (e := e) (size := size) (base := w0.heap.size) w ds.toArray 1 hF.size (by unfold maxLen; omega) (by simp [hds])
  simpa using this
 have hF' := hF.more (World.grownBy_alloc w (.cells ds.toArray e) none) (e := .own w0.heap.size e size (.slice (some ⟨w.heap.size, 0, none⟩) 1 1) 1 ds) hown (fun b hb => by
  have hb : some w.heap.size = some b := hb
  injection hb with hb; omega)
 refine wp_run (v := .slice (some ⟨w.heap.size, 0, none⟩) 1 1) (w' := w.alloc (.cells ds.toArray e)) ?_ (k _ _ hF' (by simp))
 have hpos := T.pos
 have hcell := T.zs
 have hmap : ((Array.range (1 * size)).map (fun q => z.cells[q % z.cells.size]!)).toList.length = size := by simp
 have hf := fill_step (place := fun i => some (i * size, size)) (cells := ((Array.range (1 * size)).map (fun q => z.cells[q % z.cells.size]!)).toList) (i := 0) (off := 0 * size) (size := size) (v := a.eval x) (rest := []) rfl (by rw [hx]; simpa using hds) (by rw [hmap]; omega)
 rw [hx] at hf
 have hspl : spl ((Array.range (1 * size)).map (fun q => z.cells[q % z.cells.size]!)).toList (0 * size) ds.toArray.toList = ds := by
  rw [Nat.zero_mul]; exact spl_all (by rw [hmap]; simpa using hds)
 rw [hspl, Array.toArray_toList] at hf
 have hle' : (1 * size > 2 ^ 24) = False := eq_false (by omega)
 have h0' : (1 * size = 0) = False := eq_false (by omega)
 have hp : (#[(0, x)] : Array (Nat × Operand)).map (fun p => (p.1, a.eval p.2)) = #[(0, a.eval x)] := by simp
 unfold execOp
 simp only [ho, Instr.buildSlice, Sem.run_bind, run_underlying T.und, hsz, Result.andThen_ok, hp, hle', h0', if_false, hzc, Sem.run_pure]
 rw [hf]
 simp [Instr.fill, newRow]
end laws
end Go.Proofs.YtlhicfpmlncomaaGreatDoor

namespace Go.Proofs.YtlhicfpmlncomaaGreatDoor
open Go.RowKit
section
variable {X : List Nat} {w0 w w' : World} {es es' : List Ent}
theorem app_at {α : Type} {l l' : List α} {i : Nat} {x : α} (h : (l ++ l')[i]? = some x) : (l[i]? = some x ∧ i < l.length) ∨ (l'[i - l.length]? = some x ∧ l.length ≤ i) := by
 rcases Nat.lt_or_ge i l.length with h1 | h1
 ·rw [List.getElem?_append_left h1] at h; exact .inl ⟨h, h1⟩
 ·rw [List.getElem?_append_right h1] at h; exact .inr ⟨h, h1⟩
theorem Fr.join (h : Fr X w0 w es) (h' : Fr [] w w' es') : Fr X w0 w' (es' ++ es) := by
 have hg := h.grow (grown_of_below h'.below)
 have old : ∀ {i : Nat} {e : Ent}, es'[i]? = some e → ∀ b, e.block = some b → w.heap.size ≤ b := fun {i e} hi b hb => by simpa using h'.fresh i e hi b hb
 have part : ∀ {i j : Nat} {e f : Ent}, es'[i]? = some e → es[j]? = some f → e.apart f := fun {i j e f} hi hj => by
  unfold Ent.apart
  cases hb : e.block with
  | none => exact .inl rfl
  | some b => exact .inr fun he => h.old hj (old hi b hb) he.symm
 refine ⟨hg.os, hg.tape, hg.output, hg.size, hg.block, fun i e hi => ?_, fun i e hi b hb => ?_, fun i j e f hi hj hij => ?_⟩
 ·rcases app_at hi with ⟨h1, _⟩ | ⟨h1, _⟩
  ·exact h'.holds i e h1
  ·exact hg.holds _ e h1
 ·rcases app_at hi with ⟨h1, _⟩ | ⟨h1, _⟩
  ·exact .inl (Nat.le_trans h.size (old h1 b hb))
  ·exact h.fresh _ e h1 b hb
 ·rcases app_at hi with ⟨h1, i1⟩ | ⟨h1, i1⟩
  ·rcases app_at hj with ⟨h2, j1⟩ | ⟨h2, j1⟩
   ·exact h'.apart i j e f h1 h2 hij
   ·exact part h1 h2
  ·rcases app_at hj with ⟨h2, j1⟩ | ⟨h2, j1⟩
   ·exact (part h2 h1).symm
   ·exact h.apart _ _ e f h1 h2 (by omega)
/-- Some of the entries, by their places. -/
theorem Fr.picks (h : Fr X w0 w es) (is : List Nat) {fs : List Ent} (hx : is.map (fun i => es[i]?) = fs.map some) (nd : is.Nodup) : Fr X w0 w fs := by
 have key : ∀ (j : Nat) (f : Ent), fs[j]? = some f → ∃ i, is[j]? = some i ∧ es[i]? = some f := fun j f hj => by
  have h1 : (is.map (fun i => es[i]?))[j]? = some (some f) := by rw [hx, List.getElem?_map, hj]; rfl
  rw [List.getElem?_map] at h1
  cases hi : is[j]? with
  | none => rw [hi] at h1; cases h1
  | some i => rw [hi] at h1; exact ⟨i, rfl, by simpa using h1⟩
 refine ⟨h.os, h.tape, h.output, h.size, h.block, fun j f hj => ?_, fun j f hj b hb => ?_, fun j k f f' hj hk hjk => ?_⟩
 ·obtain ⟨i, _, hi⟩ := key j f hj; exact h.holds i f hi
 ·obtain ⟨i, _, hi⟩ := key j f hj; exact h.fresh i f hi b hb
 ·obtain ⟨i, h1, hi⟩ := key j f hj
  obtain ⟨i', h2, hi'⟩ := key k f' hk
  refine h.apart i i' f f' hi hi' fun he => hjk ?_
  subst he
  obtain ⟨l1, e1⟩ := List.getElem?_eq_some_iff.1 h1
  obtain ⟨l2, e2⟩ := List.getElem?_eq_some_iff.1 h2
  have hp := List.pairwise_iff_getElem.1 nd
  rcases Nat.lt_trichotomy j k with h3 | h3 | h3
  ·exact absurd (e1.trans e2.symm) (hp j k l1 l2 h3)
  ·exact h3
  ·exact absurd (e2.trans e1.symm) (hp k j l2 l1 h3)
/-- A slice that is none owns nothing. -/
theorem Fr.none_ (h : Fr X w0 w es) (b : Nat) (e : TypeId) (size : Nat) : Fr X w0 w (.own b e size (.slice none 0 0) 0 [] :: es) :=
 h.push (e := .own b e size (.slice none 0 0) 0 []) (World.ownsRow_nil _ _ _ _) fun b hb => by cases hb
theorem own_parts {b : Nat} {e : TypeId} {size n : Nat} {v : Value} {xs : List Value} (h : w.ownsRow b e size v n xs) : ∃ A c, v = .slice A n c ∧ n ≤ c := by
 rcases h.2 with ⟨h1, h2⟩ | ⟨g, cap, cur, h1, _, _, h2, _⟩
 ·subst h2; exact ⟨none, 0, h1, Nat.le_refl _⟩
 ·exact ⟨_, _, h1, h2⟩
theorem Fr.ownParts (h : Fr X w0 w es) {i b : Nat} {e : TypeId} {size n : Nat} {v : Value} {xs : List Value} (hi : es[i]? = some (.own b e size v n xs)) : ∃ A c, v = .slice A n c ∧ n ≤ c := own_parts (w := w) (h.holds i _ hi)
end
end Go.Proofs.YtlhicfpmlncomaaGreatDoor

namespace Go.Proofs.YtlhicfpmlncomaaGreatDoor
open Go.RowKit
section
variable {P : Program} {o : Oper} {a : Act}
theorem yi_run {S : World → Prop} {ops : Array Oper} {v : Value} (hw : Region.wanted o (yielded ops a.tmps) = true) (h : ∀ w, S w → (execOp a.eval o).run P w = .ok (.value v) w) : YieldsIf P ops S o v a := .inl ⟨hw, h⟩
theorem yi_ix {S : World → Prop} {ops : Array Oper} (hw : Region.wanted o (yielded ops a.tmps) = true) {t e : TypeId} {size bytes : Nat} {z : Value} (T : SlT P t e size bytes z) {A : Option Addr} {n k : Nat} {j : Int} (hA : 0 < n → A = some (A.getD default))
  (ho : IsIx o a t A n j) (hj : j = (k : Int)) (hk : k < n) : YieldsIf P ops S o (.pointer (some (atp A (k * size)))) a := by
 refine yi_run hw fun w _ => ?_
 obtain ⟨x, i, c, kd, ho, hx, hi⟩ := ho
 obtain ⟨i', hi', _, hsz, _⟩ := info_parts T.info
 have hA := hA (by omega)
 have he : P.elem t = e := by simp [Program.elem, T.und]
 subst hj
 unfold execOp
 have hrun := run_indexAt_slice (P := P) w t (A.getD default) n c kd (k : Int) (by rw [he]; exact T.und)
 rw [if_pos ⟨by omega, by omega⟩] at hrun
 simp only [ho, hx, hi]
 rw [hA]
 simp [hrun, he, sizeOf, typeInfo, hi', hsz, atp]
theorem yi_ld {S : World → Prop} {ops : Array Oper} (hw : Region.wanted o (yielded ops a.tmps) = true) {S' : World → Nat → Prop} {A : Option Addr} {n size : Nat} {xs : List Value} (hr : ∀ w, S w → Rd w (S' w) A size n xs) {e : TypeId} {j : Nat} {u : Value} {d : TypeDesc} (hu : P.underlying e = some d) (hd : aggT d = false)
  (ho : IsLd o a e (atp A j)) (hj : xs[j]? = some u) : YieldsIf P ops S o u a := by
 refine yi_run hw fun w hS => ?_
 obtain ⟨x, ho, hx⟩ := ho
 have hc := (hr w hS).cell j u hj
 have hagg := run_isAgg hu w
 rw [hd] at hagg
 unfold execOp
 simp [ho, hx, Instr.loadAt, Instr.sureAddr, loadVar, hagg, hc]
theorem yi_ldA {S : World → Prop} {ops : Array Oper} (hw : Region.wanted o (yielded ops a.tmps) = true) {S' : World → Nat → Prop} {A : Option Addr} {n size : Nat} {xs : List Value} (hr : ∀ w, S w → Rd w (S' w) A size n xs) {e : TypeId} {j : Nat} {d : TypeDesc} (hu : P.underlying e = some d) (hd : aggT d = true)
  (ho : IsLd o a e (atp A j)) {ds : List Value} (hs : (P.info? e).map (·.size) = some ds.length) (hc : (xs.drop j).take ds.length = ds) : YieldsIf P ops S o (.agg ds.toArray) a := by
 refine yi_run hw fun w hS => ?_
 obtain ⟨x, ho, hx⟩ := ho
 have hagg := run_isAgg hu w
 rw [hd] at hagg
 obtain ⟨i, hi, hsz⟩ := Option.map_eq_some_iff.1 hs
 have hl : (loadCells (atp A j) ds.length).run P w = .ok ds.toArray w := run_loadCells_list (P := P) w (atp A j) ds (fun q v hv => by
  unfold atp
  rw [add_add]
  refine (hr w hS).cell (j + q) v ?_
  rw [← hc, List.getElem?_take] at hv
  split at hv
  ·rw [List.getElem?_drop] at hv; exact hv
  ·cases hv)
 unfold execOp
 simp [ho, hx, Instr.loadAt, Instr.sureAddr, loadVar, hagg, sizeOf, typeInfo, hi, hsz, hl]
end
end Go.Proofs.YtlhicfpmlncomaaGreatDoor

namespace Go.Proofs.YtlhicfpmlncomaaGreatDoor
open Go.RowKit
/-- The reader's cells: the bytes, the place, how many values. -/
def rdrL (A : Option Addr) (n c : Nat) (p m : Nat) : List Value := [.slice A n c, .int .i64 (p : Int), .int .i64 (m : Int)]
/-- A fault that goes up. -/
def flt (x : Nat × Nat) : Ending := .panicked [{ v := .iface 123 (.agg #[.int .i64 (x.1 : Int), .int .i64 (x.2 : Int)]), recovered := false }]
set_option maxRecDepth 20000 in
theorem fail_any (v : Value) (p e : Nat) (w : World) :
  Calls Tryz.prog 65 #[v, .int .i64 (p : Int), .int .i64 (e : Int)] w fun x w' => x = flt (p, e) ∧ w = w' := by
 go_enter Tryz.func65, Tryz.ntmps65
 go_wp2
 exact ⟨rfl, rfl, rfl⟩
/-- How a reading ends. -/
def jEnd {α : Type} (r : JR α) (f : α → Ending) : Ending :=
 match r with
 | .ok a => f a
 | .error x => flt x
section
variable {w : World} {g : Nat} {A : Option Addr} {n c p m : Nat}
theorem rdr_b (hh : w.heap[g]? = some (.cells (rdrL A n c p m).toArray 127 (0, 0))) : w.cell? ⟨g, 0, none⟩ = some (.slice A n c) := by
 rw [cell_of_row w g 0 _ _ (0, 0) hh]; rfl
theorem rdr_p (hh : w.heap[g]? = some (.cells (rdrL A n c p m).toArray 127 (0, 0))) : w.cell? ⟨g, 1, none⟩ = some (.int .i64 (p : Int)) := by
 rw [cell_of_row w g 1 _ _ (0, 0) hh]; rfl
end
set_option maxRecDepth 20000 in
set_option maxHeartbeats 800000 in
theorem next_any (g : Nat) (A : Option Addr) (n c p m : Nat) (b : List UInt8) (w : World) (S : Nat → Prop) (hh : w.heap[g]? = some (.cells (rdrL A n c p m).toArray 127 (0, 0))) (hr : Rd w S A 1 n (b.map bv)) :
  Calls Tryz.prog 85 #[.pointer (some ⟨g, 0, none⟩)] w fun e w' => e = jEnd (jNext b p) (fun c => .returned (bv c)) ∧ ∃ k, w' = w.drewN k := by
 have hl := hr.bytes_len
 have h0 := rdr_b hh
 have h1 := rdr_p hh
 clear hh
 by_cases hlt : p < n
 ·obtain ⟨ad, x, hA, hx, hcx⟩ := hr.atB hlt
  have hj : jNext b p = .ok x := by unfold jNext; rw [hx]
  rw [hj]
  replace hx := box hx
  clear hr
  subst hA
  go_enter Tryz.func85, Tryz.ntmps85
  go_wp2
  go_quiet (fail)
  go_wp2
  go_quiet (fail)
  go_wp2
  go_ret
  exact ⟨rfl, _, World.drewN_drewN _ _ _⟩
 ·have hj : jNext b p = .error (n, 9) := by unfold jNext; rw [List.getElem?_eq_none (by omega), hl]
  rw [hj]
  have hfl := box (fun v w => fail_any v n 9 w)
  go_enter Tryz.func85, Tryz.ntmps85
  go_wp2
  go_quiet (fail)
  go_wp2_with fail
  refine (hfl.out _ _).mono ?_
  rintro e w1 ⟨rfl, rfl⟩
  dsimp only [flt]
  go_wp2
  exact ⟨rfl, rfl, _, rfl⟩
section
variable {g : Nat} {A : Option Addr} {n c p m : Nat} {b : List UInt8} {w : World} {S : Nat → Prop}
theorem next_q {x : UInt8} (hx : b[p]? = some x) (hh : w.heap[g]? = some (.cells (rdrL A n c p m).toArray 127 (0, 0))) (hr : Rd w S A 1 n (b.map bv)) (k : Nat) :
  Calls Tryz.prog 85 #[.pointer (some ⟨g, 0, none⟩)] (w.drewN k) fun e w' => e = .returned (.int .u8 (x.toNat : Int)) ∧ ∃ m, w' = w.drewN m := by
 refine (next_any g A n c p m b (w.drewN k) S hh ⟨hr.len, hr.some_, hr.inS, hr.cell⟩).mono ?_
 rintro e w' ⟨rfl, j, rfl⟩
 unfold jNext
 rw [hx]
 exact ⟨rfl, _, World.drewN_drewN _ _ _⟩
theorem next_x (hx : b[p]? = none) (hh : w.heap[g]? = some (.cells (rdrL A n c p m).toArray 127 (0, 0))) (hr : Rd w S A 1 n (b.map bv)) :
  Calls Tryz.prog 85 #[.pointer (some ⟨g, 0, none⟩)] w fun e w' => e = flt (b.length, 9) ∧ Below w.heap.size w w' := by
 refine (next_any g A n c p m b w S hh hr).mono ?_
 rintro e w' ⟨rfl, j, rfl⟩
 unfold jNext
 rw [hx]
 exact ⟨rfl, below_drewN (Below.refl _ _) _⟩
end
/-- A call that ends in a panic. -/
theorem wp_callP {P : Program} {o : Oper} {a : Act} {w : World} {K : Act → World → Prop} {Q : Exit → Act → World → Prop} {f : FuncId} {fn : Func} {args : Array Operand} {ts : Array TypeId} {vs : Array Value} (hf : P.funcs[f]? = some fn) (hb : fn.body.isNone = false) (hn : (fn.name == "runtime.NumGoroutine") = false)
  (ho : o.op = .call { callee := .value (.func f), args := args, argTypes := ts }) (hv : args.map a.eval = vs) {R : Ending → World → Prop} (hc : Calls P f vs w R) (k : ∀ e w', R e w' → ∃ ch, e = .panicked ch ∧ Q (.panic ch) a w') : o.wp P a w K Q := by
 have hrun : (execOp a.eval o).run P w = .ok (.enter f vs) w := by
  unfold execOp
  have hn' : ¬ fn.name = "runtime.NumGoroutine" := by simpa using hn
  have hb' : ¬ fn.body = none := by
   intro h
   rw [h] at hb
   cases hb
  simp only [ho, resolve, Act.eval, Deferred.ofValue, invoke, callFunc, Sem.run_bind, Sem.run_pure, Result.andThen_ok, run_program, hf, ← hv]
  simp [hn', hb']
 unfold Oper.wp
 rw [hrun, Oper.upon_enter]
 refine hc.mono fun e w' hR => ?_
 obtain ⟨v, rfl, hK⟩ := k e w' hR
 exact hK
end Go.Proofs.YtlhicfpmlncomaaGreatDoor

namespace Go.Proofs.YtlhicfpmlncomaaGreatDoor
open Go.RowKit
section
variable {P : Program} {ops : Array Oper} {Q : Exit → Act → World → Prop} {md : Region.Mode} {S : World → Prop} {oi : Oper} {v : Value} {fuel : Nat} {listed : Array Bool} {a : Act} {w : World}
/-- What yields in every world. -/
theorem tkp (i : Nat) (hS : S w) (h : wpAnyH P md ops Q S fuel (listed.setIfInBounds i true) (a.put oi.dst v) w)
  (hi : ops[i]? = some oi := by first | (simp only [List.getElem?_toArray, List.getElem?_cons_zero]; rfl) | (simp only [List.getElem?_toArray, List.getElem?_cons_zero, List.getElem?_cons_succ]; rfl)) (hs : Region.noSelect ops = true := by kernel_rfl) (hf : Region.free md ops listed i = true := by kernel_rfl) (hr : (Region.ready md ops listed).contains i = true := by kernel_rfl)
  (hQ : ∀ c a w, Q (.panic c) (a.put oi.dst v) w → Q (.panic c) a w := by exact fun _ _ _ h => h) (hw : Region.wanted oi (yielded ops a.tmps) = true := by with_unfolding_all rfl)
  (hy : ∀ w, S w → (execOp a.eval oi).run P w = .ok (.value v) w := by intro w hSw; (try dsimp only at hSw); go_simp; try with_reducible rfl) : wpAnyH P md ops Q S (fuel + 1) listed a w :=
 wpAnyH_take hi hs hf hr hQ (.inl ⟨hw, hy⟩) hS h
/-- What yields where S holds, by a proof. -/
theorem tky (i : Nat)
  (hi : ops[i]? = some oi := by first | (simp only [List.getElem?_toArray, List.getElem?_cons_zero]; rfl) | (simp only [List.getElem?_toArray, List.getElem?_cons_zero, List.getElem?_cons_succ]; rfl)) (hs : Region.noSelect ops = true := by kernel_rfl) (hf : Region.free md ops listed i = true := by kernel_rfl) (hr : (Region.ready md ops listed).contains i = true := by kernel_rfl)
  (y : YieldsIf P ops S oi v a) (s : S w) (h : wpAnyH P md ops Q S fuel (listed.setIfInBounds i true) (a.put oi.dst v) w)
  (hQ : ∀ c a w, Q (.panic c) (a.put oi.dst v) w → Q (.panic c) a w := by exact fun _ _ _ h => h) : wpAnyH P md ops Q S (fuel + 1) listed a w :=
 wpAnyH_take hi hs hf hr hQ y s h
/-- The one operation that comes up. -/
theorem rdy1 (i : Nat) {o : Oper} (h : ∀ K' : Act → World → Prop, Shut (∀ a w, S w → (S w → wpAnyH P md ops Q S fuel (listed.setIfInBounds i true) a w) → K' a w) → if Region.wanted o (yielded ops a.tmps) = true then Oper.wp P o a w K' Q else K' (a.put o.dst undef) w)
  (hr : Region.ready md ops listed = [i] := by kernel_rfl) (ho : ops[i]? = some o := by first | (simp only [List.getElem?_toArray, List.getElem?_cons_zero]; rfl) | (simp only [List.getElem?_toArray, List.getElem?_cons_zero, List.getElem?_cons_succ]; rfl)) : wpAnyH P md ops Q S (fuel + 1) listed a w :=
 wpAnyH_ready hr (by simp) (.cons ho h .nil)
end
end Go.Proofs.YtlhicfpmlncomaaGreatDoor

namespace Go.Proofs.YtlhicfpmlncomaaGreatDoor
open Go.RowKit
section
variable {w w' : World} {g B : Nat} {es : List Ent} {A : Option Addr} {size n c p m : Nat}
theorem Fr.rdB {xs : List Value} (hF : Fr [g] w w' es) (hg : B ≤ g) (hB : B ≤ w.heap.size) (hr : Rd w (· < B) A size n xs) : Rd w' (· < B) A size n xs :=
 ⟨hr.len, hr.some_, hr.inS, fun j u hu => by
  rw [← hr.cell j u hu]
  have hb := hr.inS (hr.pos_of hu)
  refine World.cell?_of_block (w := w) ?_
  rw [atp_block]
  exact hF.block _ (by omega) (by simp; omega)⟩
theorem rdrL_len : (rdrL A n c p m).length = 3 := rfl
theorem rdrL_at {v : Int} {q : Nat} (h : v = (q : Int)) : spl (rdrL A n c p m) 1 [.int .i64 v] = rdrL A n c q m := by subst h; rfl
theorem rdrL_it {v : Int} {q : Nat} (h : v = (q : Int)) : spl (rdrL A n c p m) 2 [.int .i64 v] = rdrL A n c p q := by subst h; rfl
end
theorem u8_ne {c d : UInt8} (h : c ≠ d) : ((c.toNat : Int) == (d.toNat : Int)) = false := by
 rw [beq_eq_false_iff_ne]; intro he; exact h (UInt8.toNat_inj.1 (by omega))
theorem jBlanks_go {b : List UInt8} {p : Nat} {x : UInt8} (hx : b[p]? = some x) (h : jBlank x = true) : jBlanks b p = jBlanks b (p + 1) := by
 have hp := (List.getElem?_eq_some_iff.1 hx).1
 unfold jBlanks
 rw [List.drop_eq_getElem_cons hp, (List.getElem?_eq_some_iff.1 hx).2, List.takeWhile_cons, if_pos h, List.length_cons]
 omega
theorem jBlanks_stop {b : List UInt8} {p : Nat} {x : UInt8} (hx : b[p]? = some x) (h : jBlank x = false) : jBlanks b p = p := by
 have hp := (List.getElem?_eq_some_iff.1 hx).1
 unfold jBlanks
 rw [List.drop_eq_getElem_cons hp, (List.getElem?_eq_some_iff.1 hx).2, List.takeWhile_cons, if_neg (by rw [h]; decide)]
 rfl
theorem jBlanks_end {b : List UInt8} {p : Nat} (hx : b.length ≤ p) : jBlanks b p = p := by
 unfold jBlanks
 rw [List.drop_of_length_le hx]
 rfl
theorem jBlanks_le (b : List UInt8) {p : Nat} (h : p ≤ b.length) : jBlanks b p ≤ b.length := by
 have := (List.takeWhile_sublist jBlank (l := b.drop p)).length_le
 rw [List.length_drop] at this
 unfold jBlanks
 omega
theorem jBlanks_ge (b : List UInt8) (p : Nat) : p ≤ jBlanks b p := by unfold jBlanks; omega
set_option maxRecDepth 20000 in
set_option maxHeartbeats 3200000 in
theorem blanks_any (g : Nat) (A : Option Addr) (n c p m B : Nat) (b : List UInt8) (w : World) (hh : w.heap[g]? = some (.cells (rdrL A n c p m).toArray 127 (0, 0))) (hg : B ≤ g) (hB : B ≤ w.heap.size) (hn : n ≤ 140737488355000) (hp : p ≤ n) (hr : Rd w (· < B) A 1 n (b.map bv)) :
  Calls Tryz.prog 63 #[.pointer (some ⟨g, 0, none⟩)] w fun e w' => e = .returned (.tuple #[]) ∧ Fr [g] w w' [.blk g 127 (rdrL A n c (jBlanks b p) m)] := by
 have hl := box hr.bytes_len
 have hF0 := Fr.one hh
 clear hh
 go_enter Tryz.func63, Tryz.ntmps63
 go_wp2_with fail
 go_loopg [] (n - p) (fun k wr => ∃ p' : Nat, p' ≤ n ∧ Box (k = n - p') ∧ Box (jBlanks b p = jBlanks b p') ∧ Fr [g] w wr [.blk g 127 (rdrL A n c p' m)])
 case atStart => exact ⟨p, hp, box rfl, box rfl, hF0⟩
 case round =>
  obtain ⟨p', hp', hk, hj, hF⟩ := hrel
  clear hF0
  have h0 := rdr_b (hF.blk (i := 0) rfl)
  have h1 := rdr_p (hF.blk (i := 0) rfl)
  by_cases hlt : p' < n
  ·obtain ⟨ad, x, hA, hx, hcx⟩ := (hF.rdB hg hB hr).atB hlt
   have hxb := x.toNat_lt
   clear hr
   subst hA
   by_cases hx0 : x = 32
   ·subst hx0
    have hgo := box (jBlanks_go hx (by decide))
    replace hx := box hx
    go_wp2
    go_quiet (fail)
    have hFd := hF.drewN nq
    go_wp2_with (first | ((with_reducible refine lst (by with_unfolding_all rfl) (wp_fst0 hFd (by with_unfolding_all exact ⟨_, _, rfl, rfl, rfl⟩) (by kernel_rfl) rfl rfl (by rw [rdrL_len]; decide) (rdrL_at (v := (p' : Int) + 1) (q := p' + 1) (by omega)) ?_)); intro w2 hF2 hz2))
    go_roundg (n - (p' + 1))
    case rel => exact ⟨p' + 1, by omega, box rfl, box (hj.out.trans hgo.out), hF2⟩
    case measure => have := hk.out; omega
   ·by_cases hx1 : x = 9
    ·subst hx1
     have hgo := box (jBlanks_go hx (by decide))
     replace hx := box hx
     go_wp2
     go_quiet (fail)
     have hFd := hF.drewN nq
     go_wp2_with (first | ((with_reducible refine lst (by with_unfolding_all rfl) (wp_fst0 hFd (by with_unfolding_all exact ⟨_, _, rfl, rfl, rfl⟩) (by kernel_rfl) rfl rfl (by rw [rdrL_len]; decide) (rdrL_at (v := (p' : Int) + 1) (q := p' + 1) (by omega)) ?_)); intro w2 hF2 hz2))
     go_roundg (n - (p' + 1))
     case rel => exact ⟨p' + 1, by omega, box rfl, box (hj.out.trans hgo.out), hF2⟩
     case measure => have := hk.out; omega
    ·by_cases hx2 : x = 10
     ·subst hx2
      have hgo := box (jBlanks_go hx (by decide))
      replace hx := box hx
      go_wp2
      go_quiet (fail)
      have hFd := hF.drewN nq
      go_wp2_with (first | ((with_reducible refine lst (by with_unfolding_all rfl) (wp_fst0 hFd (by with_unfolding_all exact ⟨_, _, rfl, rfl, rfl⟩) (by kernel_rfl) rfl rfl (by rw [rdrL_len]; decide) (rdrL_at (v := (p' : Int) + 1) (q := p' + 1) (by omega)) ?_)); intro w2 hF2 hz2))
      go_roundg (n - (p' + 1))
      case rel => exact ⟨p' + 1, by omega, box rfl, box (hj.out.trans hgo.out), hF2⟩
      case measure => have := hk.out; omega
     ·by_cases hx3 : x = 13
      ·subst hx3
       have hgo := box (jBlanks_go hx (by decide))
       replace hx := box hx
       go_wp2
       go_quiet (fail)
       have hFd := hF.drewN nq
       go_wp2_with (first | ((with_reducible refine lst (by with_unfolding_all rfl) (wp_fst0 hFd (by with_unfolding_all exact ⟨_, _, rfl, rfl, rfl⟩) (by kernel_rfl) rfl rfl (by rw [rdrL_len]; decide) (rdrL_at (v := (p' : Int) + 1) (q := p' + 1) (by omega)) ?_)); intro w2 hF2 hz2))
       go_roundg (n - (p' + 1))
       case rel => exact ⟨p' + 1, by omega, box rfl, box (hj.out.trans hgo.out), hF2⟩
       case measure => have := hk.out; omega
      ·have hst := box (jBlanks_stop hx (by simp [jBlank, hx0, hx1, hx2, hx3]))
       replace hx := box hx
       have hn0 : ((x.toNat : Int) == 32) = false := u8_ne hx0
       have hn1 : ((x.toNat : Int) == 9) = false := u8_ne hx1
       have hn2 : ((x.toNat : Int) == 10) = false := u8_ne hx2
       have hn3 : ((x.toNat : Int) == 13) = false := u8_ne hx3
       clear hx0 hx1 hx2 hx3
       go_wp2
       go_quiet (fail)
       have hFd := hF.drewN nq
       go_wp2
       go_end0
       rw [hj.out, hst.out]
       exact ⟨rfl, hFd⟩
  ·have hst := box (jBlanks_end (b := b) (p := p') (by have := hl.out; omega))
   go_wp2
   go_quiet (fail)
   have hFd := hF.drewN nq
   go_wp2
   go_end0
   rw [hj.out, hst.out]
   exact ⟨rfl, hFd⟩
end Go.Proofs.YtlhicfpmlncomaaGreatDoor

namespace Go.Proofs.YtlhicfpmlncomaaGreatDoor
open Go.RowKit
/-- How a reading ends: what is told, and the reader; or a fault, and nothing but the reader and what is new has changed. -/
def JPost {α : Type} (w : World) (g : Nat) (r : JR α) (ret : α → Ending) (st : α → List Value) (e : Ending) (w' : World) : Prop :=
 match r with
 | .ok a => e = ret a ∧ Fr [g] w w' [.blk g 127 (st a)]
 | .error x => e = flt x ∧ w.grownBy w' (some g)
theorem jWord_le {b : List UInt8} : ∀ {l : List UInt8} {p q : Nat}, jWord b l p = .ok q → q = p + l.length ∧ (l = [] ∨ q ≤ b.length)
 | [], p, q, h => by injection h with h; subst h; exact ⟨rfl, .inl rfl⟩
 | c :: l, p, q, h => by
  unfold jWord at h
  cases hx : b[p]? with
  | none => rw [hx] at h; cases h
  | some x =>
   rw [hx] at h
   simp only [] at h
   split at h
   ·obtain ⟨h1, h2⟩ := jWord_le h
    have hp := (List.getElem?_eq_some_iff.1 hx).1
    refine ⟨by rw [h1, List.length_cons]; omega, .inr ?_⟩
    rcases h2 with rfl | h2
    ·rw [h1, List.length_nil]; omega
    ·exact h2
   ·cases h
set_option maxRecDepth 20000 in
set_option maxHeartbeats 3200000 in
theorem word_any (g : Nat) (A : Option Addr) (n c p m B : Nat) (b : List UInt8) (s : ByteArray) (w : World) (hh : w.heap[g]? = some (.cells (rdrL A n c p m).toArray 127 (0, 0))) (hg : B ≤ g) (hB : B ≤ w.heap.size) (hn : n ≤ 140737488355000) (hp : p ≤ n) (hs : s.size ≤ 1000) (hr : Rd w (· < B) A 1 n (b.map bv)) :
  Calls Tryz.prog 86 #[.pointer (some ⟨g, 0, none⟩), .string s] w (JPost w g (jWord b s.data.toList p) (fun _ => .returned (.tuple #[])) (fun q => rdrL A n c q m)) := by
 have hl := box hr.bytes_len
 have hF0 := Fr.one hh
 clear hh
 go_enter Tryz.func86, Tryz.ntmps86
 go_wp2_with fail
 go_loopg [7] s.size (fun k i wr => ∃ j p' : Nat, j ≤ s.size ∧ Box (k = s.size - j) ∧ i = .int .i64 (j : Int) ∧ p' ≤ n ∧ Box (jWord b s.data.toList p = jWord b (s.data.toList.drop j) p') ∧ Fr [g] w wr [.blk g 127 (rdrL A n c p' m)])
 case atStart => exact ⟨0, p, by omega, box rfl, rfl, hp, box rfl, hF0⟩
 case round =>
  obtain ⟨j, p', hj, hk, rfl, hpj, hw, hF⟩ := hrel
  clear hF0
  by_cases hlt : j < s.size
  ·obtain ⟨y, hy⟩ : ∃ y, s.data.toList[j]? = some y := ⟨s.data.toList[j]'hlt, by simp⟩
   have hdr : s.data.toList.drop j = y :: s.data.toList.drop (j + 1) := by
    rw [List.drop_eq_getElem_cons (by exact hlt), (List.getElem?_eq_some_iff.1 hy).2]
   have hyb := y.toNat_lt
   cases hx : b[p']? with
   | some x =>
    have hxb := x.toNat_lt
    have hnx := box (next_q hx (hF.blk (i := 0) rfl) (hF.rdB hg hB hr))
    have hplt := (List.getElem?_eq_some_iff.1 hx).1
    rw [hl.out] at hplt
    have hsj : s[j] = y := (List.getElem?_eq_some_iff.1 hy).2
    by_cases hxy : x = y
    ·have hq : ((x.toNat : Int) != (y.toNat : Int)) = false := by rw [hxy]; simp
     have hgo : Box (jWord b s.data.toList p = jWord b (s.data.toList.drop (j + 1)) (p' + 1)) := box (by
      rw [hw.out, hdr, jWord, hx]; simp only []; rw [if_pos hxy])
     replace hx := box hx
     replace hxy := box hxy
     clear hy hdr
     go_wp2
     go_quiet (exact hnx.out _)
     have hFd := hF.drewN nq
     have h1 := rdr_p (hFd.blk (i := 0) rfl)
     go_wp2_with (first | ((with_reducible refine lst (by with_unfolding_all rfl) (wp_fst0 hFd (by with_unfolding_all exact ⟨_, _, rfl, rfl, rfl⟩) (by kernel_rfl) rfl rfl (by rw [rdrL_len]; decide) (rdrL_at (v := (p' : Int) + 1) (q := p' + 1) (by omega)) ?_)); intro w2 hF2 hz2))
     go_roundg (s.size - (j + 1))
     case rel => exact ⟨j + 1, p' + 1, by omega, box rfl, by go_num, by omega, hgo, hF2⟩
     case measure => have := hk.out; omega
    ·have hq : ((x.toNat : Int) != (y.toNat : Int)) = true := by
      rw [bne_iff_ne]; intro h; exact hxy (UInt8.toNat_inj.1 (by omega))
     have hend : Box (jWord b s.data.toList p = .error (p', 10)) := box (by
      rw [hw.out, hdr, jWord, hx]; simp only []; rw [if_neg hxy])
     replace hx := box hx
     replace hxy := box hxy
     clear hy hdr
     go_wp2
     go_quiet (exact hnx.out _)
     have hFd := hF.drewN nq
     have h1 := rdr_p (hFd.blk (i := 0) rfl)
     have hfl := box (fun v w => fail_any v p' 10 w)
     go_wp2_with fail
     refine (hfl.out _ _).mono ?_
     rintro e w2 ⟨rfl, rfl⟩
     dsimp only [flt]
     go_wp2
     exact ⟨rfl, by unfold JPost; rw [hend.out]; exact ⟨rfl, hFd.grown⟩⟩
   | none =>
    have hend : Box (jWord b s.data.toList p = .error (n, 9)) := box (by
     rw [hw.out, hdr, jWord, hx, hl.out])
    have hnx := box (fun w' (hF : Fr [g] w w' [.blk g 127 (rdrL A n c p' m)]) => next_x hx (hF.blk (i := 0) rfl) (hF.rdB hg hB hr))
    rw [hl.out] at hnx
    replace hx := box hx
    clear hy hdr
    go_wp2
    have hFd := hF.drew
    refine wp_region_held (S := fun _ => True) (by kernel_rfl) ?_
    change wpAnyH _ _ _ _ _ _ _ _ (World.drew _)
    refine tkp 0 trivial ?_
    (try simp only [Act.put, List.setIfInBounds_toArray, List.set_cons_zero, List.set_cons_succ])
    refine tkp 2 trivial ?_
    (try simp only [Act.put, List.setIfInBounds_toArray, List.set_cons_zero, List.set_cons_succ])
    refine tkp 3 trivial ?_
    (try simp only [Act.put, List.setIfInBounds_toArray, List.set_cons_zero, List.set_cons_succ])
    refine tkp 4 trivial ?_
    (try simp only [Act.put, List.setIfInBounds_toArray, List.set_cons_zero, List.set_cons_succ])
    refine rdy1 1 (fun K hK => ?_)
    refine stp (by with_unfolding_all rfl) (wp_callP Tryz.func85 rfl (by with_unfolding_all rfl) (by with_unfolding_all rfl) (by with_unfolding_all rfl) (hnx.out _ hFd) ?_)
    rintro e w11 ⟨rfl, hb11⟩
    refine ⟨_, rfl, ?_⟩
    have hF11 := hFd.call hb11
    (try simp only [Exit.inBlock, Exit.then])
    exact ⟨rfl, by unfold JPost; rw [hend.out]; exact ⟨rfl, hF11.grown⟩⟩
  ·have hend : Box (jWord b s.data.toList p = .ok p') := box (by
    rw [hw.out, List.drop_of_length_le (by rw [str_len]; omega), jWord])
   go_wp2
   go_end0
   unfold JPost
   rw [hend.out]
   exact ⟨rfl, hF⟩
end Go.Proofs.YtlhicfpmlncomaaGreatDoor

namespace Go.Proofs.YtlhicfpmlncomaaGreatDoor
open Go.RowKit
theorem hex_or (N d : Nat) (hN : N < 65536) (hd : d < 16) : bits BinOp.or IntKind.i32 ((N : Int) * 16) (d : Int) = ((16 * N + d : Nat) : Int) := by
 rw [show ((N : Int) * 16) = ((N * 16 : Nat) : Int) by push_cast; rfl]
 show IntKind.i32.wrap ((BitVec.ofInt 32 ((N * 16 : Nat) : Int) ||| BitVec.ofInt 32 (d : Int)).toNat : Int) = _
 have h3 : N * 16 ||| d = 16 * N + d := by
  rw [Nat.mul_comm N 16]
  exact (Nat.two_pow_add_eq_or_of_lt (i := 4) (by omega) N).symm
 rw [BitVec.toNat_or, ofInt_u32 _ (by omega), ofInt_u32 d (by omega), h3]
 exact wrap_i32_small _ (by omega) (by omega)
theorem jUnit_lt {b : List UInt8} {start : Nat} : ∀ {k N p x : Nat} {j : Nat}, N < 16 ^ j → jUnit b start k N p = .ok x → x < 16 ^ (j + k) ∧ (k = 0 ∨ p + k ≤ b.length)
 | 0, N, p, x, j, hN, h => by injection h with h; subst h; exact ⟨hN, .inl rfl⟩
 | k + 1, N, p, x, j, hN, h => by
  unfold jUnit at h
  cases hx : b[p]? with
  | none => rw [hx] at h; cases h
  | some c =>
   rw [hx] at h
   simp only [] at h
   cases hd : jHex c with
   | none => rw [hd] at h; cases h
   | some d =>
    rw [hd] at h
    simp only [] at h
    have hd16 : d < 16 := by
     unfold jHex at hd
     split at hd
     ·injection hd; omega
     ·split at hd
      ·injection hd; omega
      ·split at hd
       ·injection hd; omega
       ·cases hd
    have hp := (List.getElem?_eq_some_iff.1 hx).1
    obtain ⟨h1, h2⟩ := jUnit_lt (j := j + 1) (by rw [Nat.pow_succ]; omega) h
    refine ⟨by rw [show j + (k + 1) = j + 1 + k by omega]; exact h1, .inr ?_⟩
    rcases h2 with rfl | h2 <;> omega
set_option maxRecDepth 20000 in
set_option maxHeartbeats 3200000 in
theorem unit_any (g : Nat) (A : Option Addr) (n c p m B from_ : Nat) (b : List UInt8) (w : World) (hh : w.heap[g]? = some (.cells (rdrL A n c p m).toArray 127 (0, 0))) (hg : B ≤ g) (hB : B ≤ w.heap.size) (hn : n ≤ 140737488355000) (hp : p ≤ n) (hr : Rd w (· < B) A 1 n (b.map bv)) :
  Calls Tryz.prog 132 #[.pointer (some ⟨g, 0, none⟩), .int .i64 (from_ : Int)] w (JPost w g (jUnit b from_ 4 0 p) (fun x => .returned (.int .i32 (x : Int))) (fun _ => rdrL A n c (p + 4) m)) := by
 have hl := box hr.bytes_len
 have hF0 := Fr.one hh
 clear hh
 go_enter Tryz.func132, Tryz.ntmps132
 go_wp2_with fail
 go_loopg [5, 7] 4 (fun k x i wr => ∃ j N p' : Nat, j ≤ 4 ∧ k = 4 - j ∧ x = .int .i32 (N : Int) ∧ N < 16 ^ j ∧ i = .int .i64 (j : Int) ∧ p' = p + j ∧ p' ≤ n ∧ Box (jUnit b from_ 4 0 p = jUnit b from_ (4 - j) N p') ∧ Fr [g] w wr [.blk g 127 (rdrL A n c p' m)])
 case atStart => exact ⟨0, 0, p, by omega, rfl, rfl, by decide, rfl, rfl, hp, box rfl, hF0⟩
 case round =>
  obtain ⟨j, N, p', hj, hk, rfl, hN, rfl, hpp, hpn, hw, hF⟩ := hrel
  clear hF0
  by_cases hlt : j < 4
  ·cases hx : b[p']? with
   | some x =>
    have hxb := x.toNat_lt
    have hnx := box (next_q hx (hF.blk (i := 0) rfl) (hF.rdB hg hB hr) 0)
    have hplt := (List.getElem?_eq_some_iff.1 hx).1
    rw [hl.out] at hplt
    replace hk := box hk
    replace hpp := box hpp
    have hN2 : N < 65536 := by
     have : 16 ^ j ≤ 16 ^ 4 := Nat.pow_le_pow_right (by decide) hj
     omega
    by_cases h0 : 48 ≤ x.toNat ∧ x.toNat ≤ 57
    ·obtain ⟨d, hd, hdx⟩ : ∃ d, d < 16 ∧ x.toNat = d + 48 := ⟨x.toNat - 48, by omega, by omega⟩
     obtain ⟨N', hN'⟩ : ∃ N', N' = 16 * N + d := ⟨_, rfl⟩
     have hor : bits BinOp.or IntKind.i32 ((N : Int) * 16) ((x.toNat : Int) - 48) = (N' : Int) := by
      rw [show (x.toNat : Int) - 48 = (d : Int) by omega, hN']
      exact hex_or N d hN2 hd
     have hjh : jHex x = some d := by unfold jHex; rw [if_pos (by omega)]; exact congrArg some (by omega)
     have hgo : Box (jUnit b from_ 4 0 p = jUnit b from_ (4 - (j + 1)) N' (p' + 1)) := box (by
      rw [hw.out, show 4 - j = (4 - (j + 1)) + 1 by omega, jUnit, hx]; simp only []; rw [hjh, hN'])
     have hN16 : N' < 16 ^ (j + 1) := by rw [Nat.pow_succ]; omega
     clear hdx hN' hjh hx
     go_wp2_with fail
     refine (hnx.out).mono ?_
     rintro e w1 ⟨rfl, q1, rfl⟩
     have hFd := hF.drewN q1
     have hc1 := rdr_p (hFd.blk (i := 0) rfl)
     go_wp2_with (first | ((with_reducible refine lst (by with_unfolding_all rfl) (wp_fst0 hFd (by with_unfolding_all exact ⟨_, _, rfl, rfl, rfl⟩) (by kernel_rfl) rfl rfl (by rw [rdrL_len]; decide) (rdrL_at (v := (p' : Int) + 1) (q := p' + 1) (by omega)) ?_)); intro w2 hF2 hz2))
     go_roundg (4 - (j + 1))
     case rel => exact ⟨j + 1, N', p' + 1, by omega, rfl, rfl, hN16, by go_num, by have := hpp.out; omega, by omega, hgo, hF2⟩
     case measure => have := hk.out; omega
    ·by_cases h1 : 97 ≤ x.toNat ∧ x.toNat ≤ 102
     ·obtain ⟨d, hd, hdx⟩ : ∃ d, d < 16 ∧ x.toNat = d + 87 := ⟨x.toNat - 87, by omega, by omega⟩
      obtain ⟨N', hN'⟩ : ∃ N', N' = 16 * N + d := ⟨_, rfl⟩
      have hor : bits BinOp.or IntKind.i32 ((N : Int) * 16) ((x.toNat : Int) - 97 + 10) = (N' : Int) := by
       rw [show (x.toNat : Int) - 97 + 10 = (d : Int) by omega, hN']
       exact hex_or N d hN2 hd
      have hjh : jHex x = some d := by unfold jHex; rw [if_neg (by omega)]; rw [if_pos (by omega)]; exact congrArg some (by omega)
      have hgo : Box (jUnit b from_ 4 0 p = jUnit b from_ (4 - (j + 1)) N' (p' + 1)) := box (by
       rw [hw.out, show 4 - j = (4 - (j + 1)) + 1 by omega, jUnit, hx]; simp only []; rw [hjh, hN'])
      have hN16 : N' < 16 ^ (j + 1) := by rw [Nat.pow_succ]; omega
      clear hdx hN' hjh hx
      go_wp2_with fail
      refine (hnx.out).mono ?_
      rintro e w1 ⟨rfl, q1, rfl⟩
      have hFd := hF.drewN q1
      have hc1 := rdr_p (hFd.blk (i := 0) rfl)
      go_wp2_with (first | ((with_reducible refine lst (by with_unfolding_all rfl) (wp_fst0 hFd (by with_unfolding_all exact ⟨_, _, rfl, rfl, rfl⟩) (by kernel_rfl) rfl rfl (by rw [rdrL_len]; decide) (rdrL_at (v := (p' : Int) + 1) (q := p' + 1) (by omega)) ?_)); intro w2 hF2 hz2))
      go_roundg (4 - (j + 1))
      case rel => exact ⟨j + 1, N', p' + 1, by omega, rfl, rfl, hN16, by go_num, by have := hpp.out; omega, by omega, hgo, hF2⟩
      case measure => have := hk.out; omega
     ·by_cases h2 : 65 ≤ x.toNat ∧ x.toNat ≤ 70
      ·obtain ⟨d, hd, hdx⟩ : ∃ d, d < 16 ∧ x.toNat = d + 55 := ⟨x.toNat - 55, by omega, by omega⟩
       obtain ⟨N', hN'⟩ : ∃ N', N' = 16 * N + d := ⟨_, rfl⟩
       have hor : bits BinOp.or IntKind.i32 ((N : Int) * 16) ((x.toNat : Int) - 65 + 10) = (N' : Int) := by
        rw [show (x.toNat : Int) - 65 + 10 = (d : Int) by omega, hN']
        exact hex_or N d hN2 hd
       have hjh : jHex x = some d := by unfold jHex; rw [if_neg (by omega)]; rw [if_neg (by omega)]; rw [if_pos (by omega)]; exact congrArg some (by omega)
       have hgo : Box (jUnit b from_ 4 0 p = jUnit b from_ (4 - (j + 1)) N' (p' + 1)) := box (by
        rw [hw.out, show 4 - j = (4 - (j + 1)) + 1 by omega, jUnit, hx]; simp only []; rw [hjh, hN'])
       have hN16 : N' < 16 ^ (j + 1) := by rw [Nat.pow_succ]; omega
       clear hdx hN' hjh hx
       go_wp2_with fail
       refine (hnx.out).mono ?_
       rintro e w1 ⟨rfl, q1, rfl⟩
       have hFd := hF.drewN q1
       have hc1 := rdr_p (hFd.blk (i := 0) rfl)
       go_wp2_with (first | ((with_reducible refine lst (by with_unfolding_all rfl) (wp_fst0 hFd (by with_unfolding_all exact ⟨_, _, rfl, rfl, rfl⟩) (by kernel_rfl) rfl rfl (by rw [rdrL_len]; decide) (rdrL_at (v := (p' : Int) + 1) (q := p' + 1) (by omega)) ?_)); intro w2 hF2 hz2))
       go_roundg (4 - (j + 1))
       case rel => exact ⟨j + 1, N', p' + 1, by omega, rfl, rfl, hN16, by go_num, by have := hpp.out; omega, by omega, hgo, hF2⟩
       case measure => have := hk.out; omega
      ·
        have hjh : jHex x = none := by unfold jHex; rw [if_neg (by omega), if_neg (by omega), if_neg (by omega)]
        have hend : Box (jUnit b from_ 4 0 p = .error (from_, 62)) := box (by
         rw [hw.out, show 4 - j = (4 - (j + 1)) + 1 by omega, jUnit, hx]; simp only []; rw [hjh])
        have hfl := box (fun v w => fail_any v from_ 62 w)
        clear hjh hx
        go_wp2_with fail
        refine (hnx.out).mono ?_
        rintro e w1 ⟨rfl, q1, rfl⟩
        have hFd := hF.drewN q1
        go_wp2_with fail
        all_goals
         refine (hfl.out _ _).mono ?_
         rintro e w2 ⟨rfl, rfl⟩
         dsimp only [flt]
         go_wp2
         exact ⟨rfl, by unfold JPost; rw [hend.out]; exact ⟨rfl, hFd.grown⟩⟩
   | none =>
    have hend : Box (jUnit b from_ 4 0 p = .error (n, 9)) := box (by
     rw [hw.out, show 4 - j = (4 - (j + 1)) + 1 by omega, jUnit, hx, hl.out])
    have hnx := box (next_x hx (hF.blk (i := 0) rfl) (hF.rdB hg hB hr))
    rw [hl.out] at hnx
    clear hx
    go_wp2_with fail
    refine (hnx.out).mono ?_
    rintro e w1 ⟨rfl, hb1⟩
    have hFd := hF.call hb1
    dsimp only [flt]
    go_wp2
    exact ⟨rfl, by unfold JPost; rw [hend.out]; exact ⟨rfl, hFd.grown⟩⟩
  ·obtain rfl : j = 4 := by omega
   have hend : Box (jUnit b from_ 4 0 p = .ok N) := box (by rw [hw.out]; rfl)
   have hpe : Box (p' = p + 4) := box hpp
   clear hpp hk
   go_wp2
   go_ret
   unfold JPost
   rw [hend.out]
   exact ⟨rfl, by rw [← hpe.out]; exact hF⟩
end Go.Proofs.YtlhicfpmlncomaaGreatDoor

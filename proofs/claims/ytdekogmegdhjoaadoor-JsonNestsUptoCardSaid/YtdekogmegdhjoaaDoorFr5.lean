/-
  Laws over a frame of known blocks, for slices of any elements: appends, elements of several cells, literals of one element. No program is named here.
-/
import Derived.Test.YtdekogmegdhjoaaDoorFr4
namespace Go.Proofs.YtdekogmegdhjoaaDoor
open Go.RowKit

section laws
variable {P : Program} {o : Oper} {a : Act} {X : List Nat} {w0 w : World} {es : List Ent} {K : Act → World → Prop} {Q : Exit → Act → World → Prop}
/-- Elements appended to a slice that the call owns. -/
theorem wp_fappG {sl e : TypeId} {size bytes : Nat} {z : Value} (T : SlT P sl e size bytes z) (hF : Fr X w0 w es) {i b : Nat} {v : Value} {n : Nat} {xs : List Value} (hi : es[i]? = some (.own b e size v n xs)) (hb : b ≤ w0.heap.size) {S : Nat → Prop} {A : Option Addr} {m c : Nat} {news : List Value} (hr : Rd w S A size m news) (h1 : ∀ u ∈ news, u.oneCell' = true)
    (ho : IsApp o a sl v (.slice A m c)) (h63 : n + m ≤ maxLen) (hbytes : (n + m) * bytes ≤ 140737488355328)
    (k : ∀ v' w', Fr X w0 w' (es.set i (.own b e size v' (n + m) (xs ++ news))) → w.heap.size ≤ w'.heap.size → K (a.put o.dst v') w') : o.wp P a w K Q := by
  have hown : w.ownsRow b e size v n xs := hF.holds i _ hi
  have hbw : b ≤ w.heap.size := Nat.le_trans hb hF.size
  refine wp_app T hown hr ho h1 h63 hbytes hbw fun v' w' h2 h3 h4 => k v' w' (hF.put hi h3 h2 (h4.imp id fun h b hb => ?_)) h3.size
  have hb : v'.ownBlock = some b := hb
  rw [h] at hb; injection hb with hb; omega
/-- An element of several cells is read. -/
theorem wp_loadA {S : Nat → Prop} {A : Option Addr} {n size : Nat} {xs : List Value} (hr : Rd w S A size n xs) {e : TypeId} {j : Nat} {d : TypeDesc} (hu : P.underlying e = some d) (hd : aggT d = true) (ho : IsLd o a e (atp A j)) {ds : List Value} (hs : (P.info? e).map (·.size) = some ds.length)
    (hc : (xs.drop j).take ds.length = ds) (k : K (a.put o.dst (.agg ds.toArray)) w) : o.wp P a w K Q := by
  obtain ⟨x, ho, hx⟩ := ho
  have hagg := run_isAgg hu w
  rw [hd] at hagg
  obtain ⟨i, hi, hsz⟩ := Option.map_eq_some_iff.1 hs
  have hl : (loadCells (atp A j) ds.length).run P w = .ok ds.toArray w := run_loadCells_list (P := P) w (atp A j) ds (fun q v hv => by
    unfold atp
    rw [add_add]
    refine hr.cell (j + q) v ?_
    rw [← hc, List.getElem?_take] at hv
    split at hv
    · rw [List.getElem?_drop] at hv; exact hv
    · cases hv)
  refine wp_run (v := .agg ds.toArray) (w' := w) ?_ k
  unfold execOp
  simp [ho, hx, Instr.loadAt, Instr.sureAddr, loadVar, hagg, sizeOf, typeInfo, hi, hsz, hl]
/-- A slice literal of one element of several cells. -/
theorem wp_fbs1 {sl e : TypeId} {size bytes : Nat} {z : Value} (T : SlT P sl e size bytes z) (hF : Fr X w0 w es) {x : Operand} (ho : o.op = .buildSlice sl 1 #[(0, x)]) {ds : List Value} (hx : (a.eval x).cells = ds.toArray) (hds : ds.length = size) (h16 : size ≤ 16777216)
    (k : ∀ w' g, Fr X w0 w' (.own w0.heap.size e size (.slice (some ⟨g, 0, none⟩) 1 1) 1 ds :: es) → w'.heap.size = w.heap.size + 1 → K (a.put o.dst (.slice (some ⟨g, 0, none⟩) 1 1)) w') : o.wp P a w K Q := by
  obtain ⟨i, hi, hz, hs, hby⟩ := info_parts T.info
  have hzc : (zeroValue e).run P w = .ok z w := by simp [zeroValue, typeInfo, hi, hz]
  have hsz : (sizeOf e).run P w = .ok size w := by simp [sizeOf, typeInfo, hi, hs]
  have hown : (w.alloc (.cells ds.toArray e)).ownsRow w0.heap.size e size (.slice (some ⟨w.heap.size, 0, none⟩) 1 1) 1 ds := by
    have := World.ownsRow_lit (e := e) (size := size) (base := w0.heap.size) w ds.toArray 1 hF.size (by unfold maxLen; omega) (by simp [hds])
    simpa using this
  have hF' := hF.more (World.grownBy_alloc w (.cells ds.toArray e) none) (e := .own w0.heap.size e size (.slice (some ⟨w.heap.size, 0, none⟩) 1 1) 1 ds) hown (fun b hb => by
    have hb : some w.heap.size = some b := hb
    injection hb with hb; omega)
  refine wp_run (v := .slice (some ⟨w.heap.size, 0, none⟩) 1 1) (w' := w.alloc (.cells ds.toArray e)) ?_ (k _ _ hF' (by simp))
  have hpos := T.pos
  have hcell := T.zs
  have hmap : ((Array.range (1 * size)).map (fun q => z.cells[q % z.cells.size]!)).toList.length = size := by simp
  have hf := fill_step (place := fun i => some (i * size, size)) (cells := ((Array.range (1 * size)).map (fun q => z.cells[q % z.cells.size]!)).toList) (i := 0) (off := 0 * size) (size := size) (v := a.eval x) (rest := []) rfl (by rw [hx]; simpa using hds) (by rw [hmap]; omega)
  rw [hx] at hf
  have hspl : spl ((Array.range (1 * size)).map (fun q => z.cells[q % z.cells.size]!)).toList (0 * size) ds.toArray.toList = ds := by
    rw [Nat.zero_mul]; exact spl_all (by rw [hmap]; simpa using hds)
  rw [hspl, Array.toArray_toList] at hf
  have hle' : (1 * size > 2 ^ 24) = False := eq_false (by omega)
  have h0' : (1 * size = 0) = False := eq_false (by omega)
  have hp : (#[(0, x)] : Array (Nat × Operand)).map (fun p => (p.1, a.eval p.2)) = #[(0, a.eval x)] := by simp
  unfold execOp
  simp only [ho, Instr.buildSlice, Sem.run_bind, run_underlying T.und, hsz, Result.andThen_ok, hp, hle', h0', if_false, hzc, Sem.run_pure]
  rw [hf]
  simp [Instr.fill, newRow]
end laws
end Go.Proofs.YtdekogmegdhjoaaDoor

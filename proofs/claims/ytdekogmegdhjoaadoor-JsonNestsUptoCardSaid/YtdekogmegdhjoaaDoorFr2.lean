/-
  More laws over a frame of known blocks: literals of slices, structs that are built, results that lie in cells, loads in a region that draws its order, equality of arrays of bytes. No program is named here.
-/
import Derived.Test.YtdekogmegdhjoaaDoorFr
import Derived.Laws.StructEq
namespace Go.Proofs.YtdekogmegdhjoaaDoor
open Go.RowKit

theorem fold_set (off : Nat) : ∀ (ds : List Value) (k : Nat) (cs : Array Value), off + k + ds.length ≤ cs.size → (ds.zipIdx k).foldl (fun cs p => cs.setIfInBounds (off + p.2) p.1) cs = (spl cs.toList (off + k) ds).toArray
  | [], k, cs, h => by simp [spl]
  | v :: ds, k, cs, h => by
    simp only [List.length_cons] at h
    rw [List.zipIdx_cons, List.foldl_cons, fold_set off ds (k + 1) (cs.setIfInBounds (off + k) v) (by simp; omega)]
    have e := list_seg_step cs.toList (off + k) v ds (by simp; omega)
    congr 1
    unfold spl
    simpa [Array.toList_setIfInBounds, Nat.add_assoc] using e
theorem fill_step {place : Nat → Option (Nat × Nat)} {cells : List Value} {i off size : Nat} {v : Value} {rest : List (Nat × Value)} (hp : place i = some (off, size)) (hs : v.cells.size = size) (hl : off + size ≤ cells.length) :
    Instr.fill place cells.toArray ((i, v) :: rest) = Instr.fill place (spl cells off v.cells.toList).toArray rest := by
  have h := fold_set off v.cells.toList 0 cells.toArray (by simp; omega)
  have h2 : (v.cells.zipIdx.foldl (fun cs (c, j) => cs.setIfInBounds (off + j) c) cells.toArray) = (spl cells off v.cells.toList).toArray := by
    rw [← Array.foldl_toList, Array.toList_zipIdx]
    simpa using h
  rw [Instr.fill, hp]
  have hc : (decide (v.cells.size ≠ size) || decide (off + v.cells.size > cells.toArray.size)) = false := by simp; omega
  simp only [hc, Bool.false_eq_true, if_false]
  rw [h2]

section laws
variable {P : Program} {o : Oper} {a : Act} {X : List Nat} {w0 w : World} {es : List Ent} {K : Act → World → Prop} {Q : Exit → Act → World → Prop}
variable {i g : Nat} {t : TypeId} {cs : List Value}

/-- A struct is built of parts. -/
theorem wp_fbuild {fs : Array Field} (hu : P.underlying t = some (.struct fs)) {z : Value} (hz : (P.info? t).map (·.zero) = some (some z)) {pl : List (Nat × Nat)} (hp : fs.toList.map (fun f => (f.offset, (P.info? f.type).map (·.size))) = pl.map (fun p => (p.1, some p.2)))
    {parts : Array (Nat × Operand)} (ho : o.op = .build t parts) {vs : List (Nat × Value)} (hvs : (parts.map fun p => (p.1, a.eval p.2)).toList = vs)
    (hf : Instr.fill (fun i : Nat => pl[i]?) z.cells vs = some cs.toArray) (k : K (a.put o.dst (.agg cs.toArray)) w) : o.wp P a w K Q := by
  obtain ⟨j, hj, hzz⟩ := Option.map_eq_some_iff.1 hz
  refine wp_run (v := .agg cs.toArray) (w' := w) ?_ k
  have hm : ∀ (fl : List Field) (pl : List (Nat × Nat)), fl.map (fun f => (f.offset, (P.info? f.type).map (·.size))) = pl.map (fun p => (p.1, some p.2)) → (fl.mapM (m := Sem) fun f => do pure (f.offset, ← sizeOf f.type)).run P w = .ok pl w := by
    intro fl
    induction fl with
    | nil => intro pl h; cases pl with
      | nil => simp
      | cons p pl => simp at h
    | cons f fl ih => intro pl h; cases pl with
      | nil => simp at h
      | cons p pl =>
        simp only [List.map_cons, List.cons.injEq, Prod.mk.injEq] at h
        obtain ⟨q, hq, hsz⟩ := Option.map_eq_some_iff.1 h.1.2
        have h1 := ih pl h.2
        have h2 : (sizeOf f.type).run P w = .ok p.2 w := by simp [sizeOf, typeInfo, hq, hsz]
        simp only [List.mapM_cons, Sem.run_bind, h2, Result.andThen_ok, Sem.run_pure, h1, h.1.1]
  have hmm := hm fs.toList pl hp
  have hzc : (zeroValue t).run P w = .ok z w := by simp [zeroValue, typeInfo, hj, hzz]
  have hpm : ((fs.mapM (m := Sem) fun f => do pure (f.offset, ← sizeOf f.type)).run P w) = .ok pl.toArray w := by
    rw [← Array.toArray_toList (xs := fs)]
    rw [List.mapM_toArray, Sem.run_map, hmm, Result.andThen_ok]
  have hvs' : (parts.map fun p => (p.1, a.eval p.2)).toList = vs := hvs
  have hfl : Instr.fill (fun i : Nat => pl.toArray[i]?) z.cells vs = some cs.toArray := by
    have : (fun i : Nat => pl.toArray[i]?) = (fun i : Nat => pl[i]?) := by funext i; simp
    rw [this]; exact hf
  unfold execOp
  simp only [ho, Instr.build, Sem.run_bind, hzc, run_underlying hu, hpm, Result.andThen_ok]
  simp only [hvs', hfl, Sem.run_pure, Result.andThen_ok]
/-- The parts of a slice literal, in order. -/
def parts (k : Nat) : List Value → List (Nat × Value)
  | [] => []
  | v :: vs => (k, v) :: parts (k + 1) vs
theorem fill_parts : ∀ (vs : List Value) (k : Nat) (cs : List Value), k + vs.length ≤ cs.length → (∀ v ∈ vs, v.cells = #[v]) → Instr.fill (fun i => some (i * 1, 1)) cs.toArray (parts k vs) = some (spl cs k vs).toArray
  | [], k, cs, _, _ => by simp [parts, Instr.fill, spl]
  | v :: vs, k, cs, h, hc => by
    simp only [List.length_cons] at h
    have hv := hc v (by simp)
    rw [parts, fill_step (off := k) (size := 1) (by simp) (by simp [hv]) (by omega), hv, fill_parts vs (k + 1) _ (by rw [spl_length (by simp; omega)]; omega) (fun u hu => hc u (by simp [hu]))]
    congr 2
    unfold spl
    rw [List.take_append_of_le_length (by simp; omega)]
    have h1 : k + 1 = (cs.take k ++ [v]).length := by simp; omega
    have h2 : List.take (k + 1) (List.take k cs ++ [v]) = cs.take k ++ [v] := by rw [h1]; exact List.take_length
    rw [h2]
    have h3 : List.drop (k + 1 + vs.length) (List.take k cs ++ [v] ++ List.drop (k + 1) cs) = List.drop (k + 1 + vs.length) cs := by
      rw [List.drop_append, List.drop_of_length_le (by simp; omega), List.nil_append, List.drop_drop]
      congr 1
      simp; omega
    simp only [List.length_cons, List.length_nil, Nat.zero_add]
    have h3' : List.drop (k + 1 + vs.length) (List.take k cs ++ [v] ++ List.drop (k + 1) cs) = List.drop (k + (vs.length + 1)) cs := by rw [h3]; congr 1; omega
    rw [h3']
    simp
/-- A slice literal of single cells. -/
theorem wp_fbsl {sl e : TypeId} {bytes : Nat} {z : Value} (T : SlT P sl e 1 bytes z) (hF : Fr X w0 w es) {n : Nat} {ps : Array (Nat × Operand)} (ho : o.op = .buildSlice sl n ps) {vs : List Value}
    (hvs : (ps.map fun p => (p.1, a.eval p.2)).toList = parts 0 vs) (hn : vs.length = n) (h16 : n ≤ 16777216) (hc : ∀ v ∈ vs, v.cells = #[v])
    (k : ∀ w' g, Fr X w0 w' (.own w0.heap.size e 1 (.slice (some ⟨g, 0, none⟩) n n) n vs :: es) → w'.heap.size = w.heap.size + 1 → K (a.put o.dst (.slice (some ⟨g, 0, none⟩) n n)) w') : o.wp P a w K Q := by
  obtain ⟨i, hi, hz, hs, hby⟩ := info_parts T.info
  have hzc : (zeroValue e).run P w = .ok z w := by simp [zeroValue, typeInfo, hi, hz]
  have hsz : (sizeOf e).run P w = .ok 1 w := by simp [sizeOf, typeInfo, hi, hs]
  have hown : (w.alloc (.cells vs.toArray e)).ownsRow w0.heap.size e 1 (.slice (some ⟨w.heap.size, 0, none⟩) n n) n vs := by
    have := World.ownsRow_lit (e := e) (size := 1) (base := w0.heap.size) w vs.toArray n hF.size (by unfold maxLen; omega) (by simp [hn])
    simpa using this
  have hF' := hF.more (World.grownBy_alloc w (.cells vs.toArray e) none) (e := .own w0.heap.size e 1 (.slice (some ⟨w.heap.size, 0, none⟩) n n) n vs) hown (fun b hb => by
    have hb : some w.heap.size = some b := hb
    injection hb with hb; omega)
  refine wp_run (v := .slice (some ⟨w.heap.size, 0, none⟩) n n) (w' := w.alloc (.cells vs.toArray e)) ?_ (k _ _ hF' (by simp))
  unfold execOp
  have hle : ¬ n * 1 > 2 ^ 24 := by omega
  have hm := Nat.mul_one n
  by_cases h0 : n = 0
  · subst h0
    have hv0 : vs = [] := List.eq_nil_of_length_eq_zero hn
    subst hv0
    have hvs' : (ps.map fun p => (p.1, a.eval p.2)).toList = [] := hvs
    simp only [ho, Instr.buildSlice, Sem.run_bind, run_underlying T.und, hsz, Result.andThen_ok, hvs']
    simp [Instr.fill, newRow, Array.range_zero']
  · have hfill := fill_parts vs 0 (List.replicate n z) (by simp; omega) hc
    have hspl : spl (List.replicate n z) 0 vs = vs := by unfold spl; simp [hn]
    rw [hspl] at hfill
    have hcell : z.cells.size = 1 := T.zs
    have hmap : (Array.range n).map (fun q => z.cells[q % z.cells.size]!) = (List.replicate n z.cells[0]!).toArray := by
      rw [hcell]
      apply Array.ext'
      simp [Nat.mod_one, List.eq_replicate_iff]
    have hf2 : Instr.fill (fun i => some (i * 1, 1)) (List.replicate n z.cells[0]!).toArray (parts 0 vs) = some vs.toArray := by
      rw [fill_parts vs 0 _ (by simp; omega) hc]
      unfold spl; simp [hn]
    have hvs' : (ps.map fun p => (p.1, a.eval p.2)).toList = parts 0 vs := hvs
    have hle' : (n * 1 > 2 ^ 24) = False := eq_false hle
    have h0' : (n * 1 = 0) = False := eq_false (by omega)
    simp only [ho, Instr.buildSlice, Sem.run_bind, run_underlying T.und, hsz, Result.andThen_ok, hvs', hle', h0', if_false, hzc, Sem.run_pure]
    rw [hm, hmap, hf2]
    simp [newRow]
end laws
end Go.Proofs.YtdekogmegdhjoaaDoor

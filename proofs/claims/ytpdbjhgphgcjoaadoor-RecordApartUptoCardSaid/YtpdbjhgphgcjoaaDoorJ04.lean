/-
  More laws over a frame of known blocks: literals of slices, structs that are built, results that lie in cells, loads in a region that draws its order, equality of arrays of bytes. No program is named here.
  Laws over a frame of known blocks, further: texts turned into bytes, results that lie in cells, equality of arrays of bytes. No program is named here.
-/
import Derived.Test.YtpdbjhgphgcjoaaDoorJ03
import Derived.Laws.StructEq
namespace Go.Proofs.YtpdbjhgphgcjoaaDoor
open Go.RowKit

theorem fold_set (off : Nat) : ∀ (ds : List Value) (k : Nat) (cs : Array Value), off + k + ds.length ≤ cs.size → (ds.zipIdx k).foldl (fun cs p => cs.setIfInBounds (off + p.2) p.1) cs = (spl cs.toList (off + k) ds).toArray
  | [], k, cs, h => by simp [spl]
  | v :: ds, k, cs, h => by
    simp only [List.length_cons] at h
    rw [List.zipIdx_cons, List.foldl_cons, fold_set off ds (k + 1) (cs.setIfInBounds (off + k) v) (by simp; omega)]
    have e := list_seg_step cs.toList (off + k) v ds (by simp; omega)
    congr 1
    unfold spl
    simpa [Array.toList_setIfInBounds, Nat.add_assoc] using e
theorem fill_step {place : Nat → Option (Nat × Nat)} {cells : List Value} {i off size : Nat} {v : Value} {rest : List (Nat × Value)} (hp : place i = some (off, size)) (hs : v.cells.size = size) (hl : off + size ≤ cells.length) :
    Instr.fill place cells.toArray ((i, v) :: rest) = Instr.fill place (spl cells off v.cells.toList).toArray rest := by
  have h := fold_set off v.cells.toList 0 cells.toArray (by simp; omega)
  have h2 : (v.cells.zipIdx.foldl (fun cs (c, j) => cs.setIfInBounds (off + j) c) cells.toArray) = (spl cells off v.cells.toList).toArray := by
    rw [← Array.foldl_toList, Array.toList_zipIdx]
    simpa using h
  rw [Instr.fill, hp]
  have hc : (decide (v.cells.size ≠ size) || decide (off + v.cells.size > cells.toArray.size)) = false := by simp; omega
  simp only [hc, Bool.false_eq_true, if_false]
  rw [h2]

section laws
variable {P : Program} {o : Oper} {a : Act} {X : List Nat} {w0 w : World} {es : List Ent} {K : Act → World → Prop} {Q : Exit → Act → World → Prop}
variable {i g : Nat} {t : TypeId} {cs : List Value}

/-- A struct is built of parts. -/
theorem wp_fbuild {fs : Array Field} (hu : P.underlying t = some (.struct fs)) {z : Value} (hz : (P.info? t).map (·.zero) = some (some z)) {pl : List (Nat × Nat)} (hp : fs.toList.map (fun f => (f.offset, (P.info? f.type).map (·.size))) = pl.map (fun p => (p.1, some p.2)))
    {parts : Array (Nat × Operand)} (ho : o.op = .build t parts) {vs : List (Nat × Value)} (hvs : (parts.map fun p => (p.1, a.eval p.2)).toList = vs)
    (hf : Instr.fill (fun i : Nat => pl[i]?) z.cells vs = some cs.toArray) (k : K (a.put o.dst (.agg cs.toArray)) w) : o.wp P a w K Q := by
  obtain ⟨j, hj, hzz⟩ := Option.map_eq_some_iff.1 hz
  refine wp_run (v := .agg cs.toArray) (w' := w) ?_ k
  have hm : ∀ (fl : List Field) (pl : List (Nat × Nat)), fl.map (fun f => (f.offset, (P.info? f.type).map (·.size))) = pl.map (fun p => (p.1, some p.2)) → (fl.mapM (m := Sem) fun f => do pure (f.offset, ← sizeOf f.type)).run P w = .ok pl w := by
    intro fl
    induction fl with
    | nil => intro pl h; cases pl with
      | nil => simp
      | cons p pl => simp at h
    | cons f fl ih => intro pl h; cases pl with
      | nil => simp at h
      | cons p pl =>
        simp only [List.map_cons, List.cons.injEq, Prod.mk.injEq] at h
        obtain ⟨q, hq, hsz⟩ := Option.map_eq_some_iff.1 h.1.2
        have h1 := ih pl h.2
        have h2 : (sizeOf f.type).run P w = .ok p.2 w := by simp [sizeOf, typeInfo, hq, hsz]
        simp only [List.mapM_cons, Sem.run_bind, h2, Result.andThen_ok, Sem.run_pure, h1, h.1.1]
  have hmm := hm fs.toList pl hp
  have hzc : (zeroValue t).run P w = .ok z w := by simp [zeroValue, typeInfo, hj, hzz]
  have hpm : ((fs.mapM (m := Sem) fun f => do pure (f.offset, ← sizeOf f.type)).run P w) = .ok pl.toArray w := by
    rw [← Array.toArray_toList (xs := fs)]
    rw [List.mapM_toArray, Sem.run_map, hmm, Result.andThen_ok]
  have hvs' : (parts.map fun p => (p.1, a.eval p.2)).toList = vs := hvs
  have hfl : Instr.fill (fun i : Nat => pl.toArray[i]?) z.cells vs = some cs.toArray := by
    have : (fun i : Nat => pl.toArray[i]?) = (fun i : Nat => pl[i]?) := by funext i; simp
    rw [this]; exact hf
  unfold execOp
  simp only [ho, Instr.build, Sem.run_bind, hzc, run_underlying hu, hpm, Result.andThen_ok]
  simp only [hvs', hfl, Sem.run_pure, Result.andThen_ok]
/-- The parts of a slice literal, in order. -/
def parts (k : Nat) : List Value → List (Nat × Value)
  | [] => []
  | v :: vs => (k, v) :: parts (k + 1) vs
theorem fill_parts : ∀ (vs : List Value) (k : Nat) (cs : List Value), k + vs.length ≤ cs.length → (∀ v ∈ vs, v.cells = #[v]) → Instr.fill (fun i => some (i * 1, 1)) cs.toArray (parts k vs) = some (spl cs k vs).toArray
  | [], k, cs, _, _ => by simp [parts, Instr.fill, spl]
  | v :: vs, k, cs, h, hc => by
    simp only [List.length_cons] at h
    have hv := hc v (by simp)
    rw [parts, fill_step (off := k) (size := 1) (by simp) (by simp [hv]) (by omega), hv, fill_parts vs (k + 1) _ (by rw [spl_length (by simp; omega)]; omega) (fun u hu => hc u (by simp [hu]))]
    congr 2
    unfold spl
    rw [List.take_append_of_le_length (by simp; omega)]
    have h1 : k + 1 = (cs.take k ++ [v]).length := by simp; omega
    have h2 : List.take (k + 1) (List.take k cs ++ [v]) = cs.take k ++ [v] := by rw [h1]; exact List.take_length
    rw [h2]
    have h3 : List.drop (k + 1 + vs.length) (List.take k cs ++ [v] ++ List.drop (k + 1) cs) = List.drop (k + 1 + vs.length) cs := by
      rw [List.drop_append, List.drop_of_length_le (by simp; omega), List.nil_append, List.drop_drop]
      congr 1
      simp; omega
    simp only [List.length_cons, List.length_nil, Nat.zero_add]
    have h3' : List.drop (k + 1 + vs.length) (List.take k cs ++ [v] ++ List.drop (k + 1) cs) = List.drop (k + (vs.length + 1)) cs := by rw [h3]; congr 1; omega
    rw [h3']
    simp
/-- A slice literal of single cells. -/
theorem wp_fbsl {sl e : TypeId} {bytes : Nat} {z : Value} (T : SlT P sl e 1 bytes z) (hF : Fr X w0 w es) {n : Nat} {ps : Array (Nat × Operand)} (ho : o.op = .buildSlice sl n ps) {vs : List Value}
    (hvs : (ps.map fun p => (p.1, a.eval p.2)).toList = parts 0 vs) (hn : vs.length = n) (h16 : n ≤ 16777216) (hc : ∀ v ∈ vs, v.cells = #[v])
    (k : ∀ w' g, Fr X w0 w' (.own w0.heap.size e 1 (.slice (some ⟨g, 0, none⟩) n n) n vs :: es) → w'.heap.size = w.heap.size + 1 → K (a.put o.dst (.slice (some ⟨g, 0, none⟩) n n)) w') : o.wp P a w K Q := by
  obtain ⟨i, hi, hz, hs, hby⟩ := info_parts T.info
  have hzc : (zeroValue e).run P w = .ok z w := by simp [zeroValue, typeInfo, hi, hz]
  have hsz : (sizeOf e).run P w = .ok 1 w := by simp [sizeOf, typeInfo, hi, hs]
  have hown : (w.alloc (.cells vs.toArray e)).ownsRow w0.heap.size e 1 (.slice (some ⟨w.heap.size, 0, none⟩) n n) n vs := by
    have := World.ownsRow_lit (e := e) (size := 1) (base := w0.heap.size) w vs.toArray n hF.size (by unfold maxLen; omega) (by simp [hn])
    simpa using this
  have hF' := hF.more (World.grownBy_alloc w (.cells vs.toArray e) none) (e := .own w0.heap.size e 1 (.slice (some ⟨w.heap.size, 0, none⟩) n n) n vs) hown (fun b hb => by
    have hb : some w.heap.size = some b := hb
    injection hb with hb; omega)
  refine wp_run (v := .slice (some ⟨w.heap.size, 0, none⟩) n n) (w' := w.alloc (.cells vs.toArray e)) ?_ (k _ _ hF' (by simp))
  unfold execOp
  have hle : ¬ n * 1 > 2 ^ 24 := by omega
  have hm := Nat.mul_one n
  by_cases h0 : n = 0
  · subst h0
    have hv0 : vs = [] := List.eq_nil_of_length_eq_zero hn
    subst hv0
    have hvs' : (ps.map fun p => (p.1, a.eval p.2)).toList = [] := hvs
    simp only [ho, Instr.buildSlice, Sem.run_bind, run_underlying T.und, hsz, Result.andThen_ok, hvs']
    simp [Instr.fill, newRow, Array.range_zero']
  · have hfill := fill_parts vs 0 (List.replicate n z) (by simp; omega) hc
    have hspl : spl (List.replicate n z) 0 vs = vs := by unfold spl; simp [hn]
    rw [hspl] at hfill
    have hcell : z.cells.size = 1 := T.zs
    have hmap : (Array.range n).map (fun q => z.cells[q % z.cells.size]!) = (List.replicate n z.cells[0]!).toArray := by
      rw [hcell]
      apply Array.ext'
      simp [Nat.mod_one, List.eq_replicate_iff]
    have hf2 : Instr.fill (fun i => some (i * 1, 1)) (List.replicate n z.cells[0]!).toArray (parts 0 vs) = some vs.toArray := by
      rw [fill_parts vs 0 _ (by simp; omega) hc]
      unfold spl; simp [hn]
    have hvs' : (ps.map fun p => (p.1, a.eval p.2)).toList = parts 0 vs := hvs
    have hle' : (n * 1 > 2 ^ 24) = False := eq_false hle
    have h0' : (n * 1 = 0) = False := eq_false (by omega)
    simp only [ho, Instr.buildSlice, Sem.run_bind, run_underlying T.und, hsz, Result.andThen_ok, hvs', hle', h0', if_false, hzc, Sem.run_pure]
    rw [hm, hmap, hf2]
    simp [newRow]
end laws
end Go.Proofs.YtpdbjhgphgcjoaaDoor

namespace Go.Proofs.YtpdbjhgphgcjoaaDoor
open Go.RowKit

theorem take_all (cs : List Value) : (cs.drop 0).take cs.length = cs := by rw [List.drop_zero]; exact List.take_length
theorem spl_all {cs ds : List Value} (h : ds.length = cs.length) : spl cs 0 ds = ds := by
  unfold spl
  rw [List.take_zero, List.nil_append, Nat.zero_add, List.drop_of_length_le (by omega), List.append_nil]
section laws
variable {P : Program} {o : Oper} {a : Act} {X : List Nat} {w0 w : World} {es : List Ent} {K : Act → World → Prop} {Q : Exit → Act → World → Prop}
variable {i g : Nat} {t : TypeId} {cs : List Value}

/-- '[]byte(s)'. -/
theorem wp_fs2b {sl st e : TypeId} {size bytes : Nat} {z : Value} (T : SlT P sl e size bytes z) (he : P.underlying e = some (.int .u8)) (hst : P.underlying st = some .string) (hF : Fr X w0 w es) {s : ByteArray}
    (ho : IsCv o a st sl (.string s))
    (k : ∀ w' g c, Fr X w0 w' (.rd (some ⟨g, 0, none⟩) 1 s.size (s.data.toList.map bv) :: es) → w'.heap.size = w.heap.size + 1 → s.size ≤ c → K (a.put o.dst (.slice (some ⟨g, 0, none⟩) s.size c)) w') : o.wp P a w K Q := by
  obtain ⟨x, ho, hx⟩ := ho
  have hrun := Lib.run_convert_string_bytes (P := P) w st sl e s hst T.und he
  have hsz := Lib.bytesWorld_size w e s
  have hg : w.grownBy (Lib.bytesWorld w e s) none := ⟨rfl, rfl, rfl, by omega, fun j hj _ => Lib.bytesWorld_at_old w e s j hj⟩
  have hrd : Rd (Lib.bytesWorld w e s) (· < (Lib.bytesWorld w e s).heap.size) (some ⟨w.heap.size, 0, none⟩) 1 s.size (s.data.toList.map bv) := by
    refine ⟨by simp, fun _ => rfl, fun _ => by show w.heap.size < _; omega, fun j u hu => ?_⟩
    have hat : atp (some ⟨w.heap.size, 0, none⟩) j = ⟨w.heap.size, j, none⟩ := by
      unfold atp Addr.add
      by_cases hj : j = 0 <;> simp [hj]
    have hj : j < s.size := by
      have := (List.getElem?_eq_some_iff.1 hu).1
      rw [List.length_map, str_len] at this; exact this
    rw [hat, Lib.bytesWorld_cell w e s j hj]
    rw [List.getElem?_map] at hu
    cases hq : s.data.toList[j]? with
    | none => rw [hq] at hu; cases hu
    | some c =>
      rw [hq] at hu
      rw [List.getD_eq_getElem?_getD, hq]
      exact hu
  have hF' := hF.more hg (e := .rd (some ⟨w.heap.size, 0, none⟩) 1 s.size (s.data.toList.map bv)) ⟨hrd, fun a ha => by injection ha with ha; subst ha; show w.heap.size < _; omega⟩
    (fun b hb => by
      have hb : some w.heap.size = some b := hb
      injection hb with hb; omega)
  refine wp_run (v := .slice (some ⟨w.heap.size, 0, none⟩) s.size (grownCap w s.size 0 e)) (w' := Lib.bytesWorld w e s) ?_ (k _ _ _ hF' hsz (grownCap_ge w s.size 0 e))
  unfold execOp
  simp [ho, hx, hrun]

/-- A result that lies in a cell of the call's own: a struct or an array. -/
theorem run_loadF (hF : Fr X w0 w es) (hi : es[i]? = some (.blk g t cs)) {ty : TypeId} {d : TypeDesc} (hu : P.underlying ty = some d) (hd : aggT d = true) (hs : (P.info? ty).map (·.size) = some cs.length) :
    (loadVar ty ⟨g, 0, none⟩).run P w = .ok (.agg cs.toArray) w :=
  run_loadVar_mid w g 0 ty cs d (rangeAt_blk hF hi (by simp)) hu (by cases d <;> simp_all [aggT, TypeDesc.isRow]) hs
theorem results_cellF {fn : Func} {p : Tmp} {ty : TypeId} (h : fn.results = #[.cell p ty]) (tmps : Array Value) (hF : Fr X w0 w es) (hi : es[i]? = some (.blk g t cs)) (hp : tmps.getD p undef = .pointer (some ⟨g, 0, none⟩))
    {d : TypeDesc} (hu : P.underlying ty = some d) (hd : aggT d = true) (hs : (P.info? ty).map (·.size) = some cs.length) : (results fn tmps).run P w = .ok (.agg cs.toArray) w := by
  have hp' : tmps[p]?.getD undef = .pointer (some ⟨g, 0, none⟩) := by simpa using hp
  simp [results, h, hp', asAddr, run_loadF hF hi hu hd hs]
theorem results_cellF2 {fn : Func} {p q : Tmp} {ty : TypeId} (h : fn.results = #[.cell p ty, .tmp q]) (tmps : Array Value) (hF : Fr X w0 w es) (hi : es[i]? = some (.blk g t cs)) (hp : tmps.getD p undef = .pointer (some ⟨g, 0, none⟩))
    {d : TypeDesc} (hu : P.underlying ty = some d) (hd : aggT d = true) (hs : (P.info? ty).map (·.size) = some cs.length) : (results fn tmps).run P w = .ok (.tuple #[.agg cs.toArray, tmps.getD q undef]) w := by
  have hp' : tmps[p]?.getD undef = .pointer (some ⟨g, 0, none⟩) := by simpa using hp
  simp [results, h, hp', asAddr, run_loadF hF hi hu hd hs]

/-- A load that yields in every world in which a block is as it is known. -/
theorem yi_fld {S : World → Prop} {ops : Array Oper} (hw : Region.wanted o (yielded ops a.tmps) = true) (hS : ∀ w, S w → w.heap[g]? = some (.cells cs.toArray t (0, 0))) {e : TypeId} {d : TypeDesc} (hu : P.underlying e = some d) (hd : aggT d = false) {off : Nat} (ho : IsLd o a e ⟨g, off, none⟩) {u : Value} (hc : cs[off]? = some u) :
    YieldsIf P ops S o u a := .inl ⟨hw, fun w hw => by
  obtain ⟨x, ho, hx⟩ := ho
  have hcell : w.cell? ⟨g, off, none⟩ = some u := by rw [cell_of_row w g off _ t (0, 0) (hS w hw)]; simpa using hc
  have hagg := run_isAgg hu w
  rw [hd] at hagg
  unfold execOp
  simp [ho, hx, Instr.loadAt, Instr.sureAddr, loadVar, hagg, hcell]⟩
theorem yi_fldA {S : World → Prop} {ops : Array Oper} (hw : Region.wanted o (yielded ops a.tmps) = true) (hS : ∀ w, S w → w.heap[g]? = some (.cells cs.toArray t (0, 0))) {e : TypeId} {d : TypeDesc} (hu : P.underlying e = some d) (hd : aggT d = true) {off : Nat} (ho : IsLd o a e ⟨g, off, none⟩) {ds : List Value}
    (hs : (P.info? e).map (·.size) = some ds.length) (hc : (cs.drop off).take ds.length = ds) : YieldsIf P ops S o (.agg ds.toArray) a := by
  obtain ⟨x, ho, hx⟩ := ho
  refine yieldsIf_load_mid hw e x ho g off hx ds d (fun w hw j v hv => ?_) hu (by cases d <;> simp_all [aggT, TypeDesc.isRow]) hs
  rw [cell_of_row w g (off + j) _ t (0, 0) (hS w hw)]
  rw [← hc, List.getElem?_take] at hv
  split at hv
  · rw [List.getElem?_drop] at hv; simpa using hv
  · cases hv

/-- A loop that compares, up to the first that differs. -/
theorem run_cmp {α : Type} [Inhabited α] (w : World) (s0 s1 : α) (F : Nat → α → Sem (ForInStep α)) (l m : List UInt8) (hlm : l.length = m.length) (hF : ∀ (k : Nat) (c c' : UInt8), l[k]? = some c → m[k]? = some c' → (F k s0).run P w = .ok (if c == c' then .yield s0 else .done s1) w) :
    ∀ (j k : Nat), k + j = l.length → (forIn (List.range' k j) s0 F).run P w = .ok (if l.drop k == m.drop k then s0 else s1) w
  | 0, k, h => by
    rw [List.drop_of_length_le (by omega), List.drop_of_length_le (by omega)]
    simp
  | j + 1, k, h => by
    have hl : k < l.length := by omega
    have hm : k < m.length := by omega
    have h1 := hF k l[k] m[k] (by simp) (by simp)
    rw [List.range'_succ, List.forIn_cons, Sem.run_bind, h1, List.drop_eq_getElem_cons hl, List.drop_eq_getElem_cons hm]
    by_cases hc : l[k] = m[k]
    · have ih := run_cmp w s0 s1 F l m hlm hF j (k + 1) (by omega)
      simp only [hc, beq_self_eq_true, if_true, Result.andThen_ok, ih, List.cons_beq_cons, Bool.true_and]
    · have hb : (l[k] == m[k]) = false := by simpa using hc
      simp only [hb, Bool.false_eq_true, if_false, Result.andThen_ok, List.cons_beq_cons, Bool.false_and, Sem.run_pure]
/-- Two arrays of bytes are compared. -/
theorem run_eqBytes {e : TypeId} {n : Nat} (ht : P.underlying t = some (.array n e)) (he : P.underlying e = some (.int .u8)) (hs : (P.info? e).map (·.size) = some 1) (l m : List UInt8) (hl : l.length = n) (hm : m.length = n) (d : Nat) (w : World) :
    (Op.equalIn (d + 2) t (.agg (l.map bv).toArray) (.agg (m.map bv).toArray)).run P w = .ok (l == m) w := by
  obtain ⟨j, hj, hsz⟩ := Option.map_eq_some_iff.1 hs
  have hagg : (isAgg e).run P w = .ok false w := run_isAgg he w
  have hpart : ∀ (l : List UInt8) (k : Nat) (c : UInt8), l[k]? = some c → (part e (l.map bv).toArray (k * 1)).run P w = .ok (bv c) w := fun l k c hc => by
    simp [part, hagg, hc]
  have hcmp : ∀ c c' : UInt8, (Op.equalIn (d + 1) e (bv c) (bv c')).run P w = .ok (c == c') w := fun c c' => by
    unfold bv
    rw [run_equalIn_int w d e .u8 .u8 _ _ he]
    congr 1
    rw [Bool.eq_iff_iff, beq_iff_eq, beq_iff_eq]
    exact ⟨fun h => UInt8.toNat_inj.1 (by omega), fun h => by rw [h]⟩
  have hso : (sizeOf e).run P w = .ok 1 w := by simp [sizeOf, typeInfo, hj, hsz]
  rw [Op.equalIn]
  simp only [Sem.run_bind, run_underlying ht, Result.andThen_ok, hso, Std.Legacy.Range.forIn_eq_forIn_range']
  have hsize : (Std.Legacy.Range.mk 0 n 1 (by omega)).size = n := by simp [Std.Legacy.Range.size]
  rw [hsize, run_cmp (P := P) w (none, ()) (some false, ()) _ l m (by omega) ?_ n 0 (by omega)]
  · simp only [List.drop_zero, Result.andThen_ok]
    cases l == m <;> simp
  · intro k c c' hc hc'
    simp only [Sem.run_bind, hpart l k c hc, hpart m k c' hc', Result.andThen_ok, hcmp]
    cases c == c' <;> simp
end laws

/-- The block that a slice value owns, as a list. -/
def Xof (v : Value) : List Nat := v.ownBlock.toList
theorem Xof_mem {v : Value} {k : Nat} : k ∈ Xof v ↔ v.ownBlock = some k := by unfold Xof; cases v.ownBlock <;> simp [eq_comm]
section
variable {w0 w : World} {X : List Nat} {es : List Ent}
/-- A call that was handed bytes that it may append to. -/
theorem Fr.oneB {b : Nat} {e : TypeId} {v : Value} {l : List UInt8} (h : OwnB w b e v l) : Fr (Xof v) w w [.bytes b e v l] := by
  refine ⟨rfl, rfl, rfl, Nat.le_refl _, fun _ _ _ => rfl, fun i e he => ?_, fun i e he b hb => ?_, fun i j e f he hf hij => ?_⟩
  · match i, he with
    | 0, he => injection he with he; subst he; exact h.own
  · match i, he with
    | 0, he => injection he with he; subst he; exact .inr (Xof_mem.2 hb)
  · match i, j, he, hf with
    | 0, 0, _, _ => exact absurd rfl hij
theorem Fr.grownX {v : Value} (h : Fr (Xof v) w0 w es) : w0.grownBy w v.ownBlock := ⟨h.os, h.tape, h.output, h.size, fun k hk hne => h.block k hk (fun hm => hne (Xof_mem.1 hm).symm)⟩
/-- What came in, but not in a block that changes, reads as it did. -/
theorem Fr.rdKeep (h : Fr X w0 w es) {size n : Nat} {A : Option Addr} {xs : List Value} (hr : Rd w0 (fun k => k < w0.heap.size ∧ k ∉ X) A size n xs) : Rd w (· < w.heap.size) A size n xs := by
  refine ⟨hr.len, hr.some_, fun hn => Nat.lt_of_lt_of_le (hr.inS hn).1 h.size, fun j u hu => ?_⟩
  have hb := hr.inS (hr.pos_of hu)
  rw [← hr.cell j u hu]
  refine World.cell?_of_block (w := w0) ?_
  rw [atp_block]
  exact h.block _ hb.1 hb.2
end
end Go.Proofs.YtpdbjhgphgcjoaaDoor

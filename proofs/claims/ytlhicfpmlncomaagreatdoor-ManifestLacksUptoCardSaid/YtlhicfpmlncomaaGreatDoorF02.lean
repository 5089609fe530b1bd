/-
 More laws over a frame of known blocks: literals of slices, structs that are built, results that lie in cells, loads in a region that draws its order, equality of arrays of bytes. No program is named here.
 Laws over a frame of known blocks, further: texts turned into bytes, results that lie in cells, equality of arrays of bytes. No program is named here.
 The laws over a frame of known blocks, by the place of the entry. (Printed by gen_frp.py.) No program is named here.
 Laws over a frame of known blocks, for regions that draw their order: a call met by its contract; entries picked out. No program is named here.
 Laws over a frame of known blocks, for slices of any elements: appends, elements of several cells, literals of one element. No program is named here.
 Frames of known blocks, joined: what a call hands back in blocks of its own. No program is named here.
 Regions that draw their order and only read: the place of an element, its cell, its cells. Texts are compared. No program is named here.
 Layer 6: the program's reader: its words; faults; the next byte.
 Steps through regions that draw their order, in few words. No program is named here.
 Layer 6: the program's reader: blanks, words.
 Layer 6: the program's reader: words.
-/
import Derived.Test.YtlhicfpmlncomaaGreatDoorF01
import Derived.Laws.StructEq
import Derived.Deep.RegionHeld3
import Derived.Deep.QuietTactic
import Derived.BigQuiet
import Derived.Deep.LoopGhost
import Derived.Deep.DeepCutAuto
import Derived.Test.YtlhicfpmlncomaaGreatDoorF00
set_option linter.unusedSimpArgs false
set_option linter.unusedVariables false
namespace Go.Proofs.YtlhicfpmlncomaaGreatDoor
open Go.RowKit
theorem fold_set (off : Nat) : ∀ (ds : List Value) (k : Nat) (cs : Array Value), off + k + ds.length ≤ cs.size → (ds.zipIdx k).foldl (fun cs p => cs.setIfInBounds (off + p.2) p.1) cs = (spl cs.toList (off + k) ds).toArray
 | [], k, cs, h => by simp [spl]
 | v :: ds, k, cs, h => by
  simp only [List.length_cons] at h
  rw [List.zipIdx_cons, List.foldl_cons, fold_set off ds (k + 1) (cs.setIfInBounds (off + k) v) (by simp; omega)]
  have e := list_seg_step cs.toList (off + k) v ds (by simp; omega)
  congr 1
  unfold spl
  simpa [Array.toList_setIfInBounds, Nat.add_assoc] using e
theorem fill_step {place : Nat → Option (Nat × Nat)} {cells : List Value} {i off size : Nat} {v : Value} {rest : List (Nat × Value)} (hp : place i = some (off, size)) (hs : v.cells.size = size) (hl : off + size ≤ cells.length) :
  Instr.fill place cells.toArray ((i, v) :: rest) = Instr.fill place (spl cells off v.cells.toList).toArray rest := by
 have h := fold_set off v.cells.toList 0 cells.toArray (by simp; omega)
 have h2 : (v.cells.zipIdx.foldl (fun cs (c, j) => cs.setIfInBounds (off + j) c) cells.toArray) = (spl cells off v.cells.toList).toArray := by
  rw [← Array.foldl_toList, Array.toList_zipIdx]
  simpa using h
 rw [Instr.fill, hp]
 have hc : (decide (v.cells.size ≠ size) || decide (off + v.cells.size > cells.toArray.size)) = false := by simp; omega
 simp only [hc, Bool.false_eq_true, if_false]
 rw [h2]
section laws
variable {P : Program} {o : Oper} {a : Act} {X : List Nat} {w0 w : World} {es : List Ent} {K : Act → World → Prop} {Q : Exit → Act → World → Prop}
variable {i g : Nat} {t : TypeId} {cs : List Value}
theorem wp_fbuild {fs : Array Field} (hu : P.underlying t = some (.struct fs)) {z : Value} (hz : (P.info? t).map (·.zero) = some (some z)) {pl : List (Nat × Nat)} (hp : fs.toList.map (fun f => (f.offset, (P.info? f.type).map (·.size))) = pl.map (fun p => (p.1, some p.2)))
  {parts : Array (Nat × Operand)} (ho : o.op = .build t parts) {vs : List (Nat × Value)} (hvs : (parts.map fun p => (p.1, a.eval p.2)).toList = vs)
  (hf : Instr.fill (fun i : Nat => pl[i]?) z.cells vs = some cs.toArray) (k : K (a.put o.dst (.agg cs.toArray)) w) : o.wp P a w K Q := by
 obtain ⟨j, hj, hzz⟩ := Option.map_eq_some_iff.1 hz
 refine wp_run (v := .agg cs.toArray) (w' := w) ?_ k
 have hm : ∀ (fl : List Field) (pl : List (Nat × Nat)), fl.map (fun f => (f.offset, (P.info? f.type).map (·.size))) = pl.map (fun p => (p.1, some p.2)) → (fl.mapM (m := Sem) fun f => do pure (f.offset, ← sizeOf f.type)).run P w = .ok pl w := by
  intro fl
  induction fl with
  | nil => intro pl h; cases pl with
   | nil => simp
   | cons p pl => simp at h
  | cons f fl ih => intro pl h; cases pl with
   | nil => simp at h
   | cons p pl =>
    simp only [List.map_cons, List.cons.injEq, Prod.mk.injEq] at h
    obtain ⟨q, hq, hsz⟩ := Option.map_eq_some_iff.1 h.1.2
    have h1 := ih pl h.2
    have h2 : (sizeOf f.type).run P w = .ok p.2 w := by simp [sizeOf, typeInfo, hq, hsz]
    simp only [List.mapM_cons, Sem.run_bind, h2, Result.andThen_ok, Sem.run_pure, h1, h.1.1]
 have hmm := hm fs.toList pl hp
 have hzc : (zeroValue t).run P w = .ok z w := by simp [zeroValue, typeInfo, hj, hzz]
 have hpm : ((fs.mapM (m := Sem) fun f => do pure (f.offset, ← sizeOf f.type)).run P w) = .ok pl.toArray w := by
  rw [← Array.toArray_toList (xs := fs)]
  rw [List.mapM_toArray, Sem.run_map, hmm, Result.andThen_ok]
 have hvs' : (parts.map fun p => (p.1, a.eval p.2)).toList = vs := hvs
 have hfl : Instr.fill (fun i : Nat => pl.toArray[i]?) z.cells vs = some cs.toArray := by
  have : (fun i : Nat => pl.toArray[i]?) = (fun i : Nat => pl[i]?) := by funext i; simp
  rw [this]; exact hf
 unfold execOp
 simp only [ho, Instr.build, Sem.run_bind, hzc, run_underlying hu, hpm, Result.andThen_ok]
 simp only [hvs', hfl, Sem.run_pure, Result.andThen_ok]
def parts (k : Nat) : List Value → List (Nat × Value)
 | [] => []
 | v :: vs => (k, v) :: parts (k + 1) vs
theorem fill_parts : ∀ (vs : List Value) (k : Nat) (cs : List Value), k + vs.length ≤ cs.length → (∀ v ∈ vs, v.cells = #[v]) → Instr.fill (fun i => some (i * 1, 1)) cs.toArray (parts k vs) = some (spl cs k vs).toArray
 | [], k, cs, _, _ => by simp [parts, Instr.fill, spl]
 | v :: vs, k, cs, h, hc => by
  simp only [List.length_cons] at h
  have hv := hc v (by simp)
  rw [parts, fill_step (off := k) (size := 1) (by simp) (by simp [hv]) (by omega), hv, fill_parts vs (k + 1) _ (by rw [spl_length (by simp; omega)]; omega) (fun u hu => hc u (by simp [hu]))]
  congr 2
  unfold spl
  rw [List.take_append_of_le_length (by simp; omega)]
  have h1 : k + 1 = (cs.take k ++ [v]).length := by simp; omega
  have h2 : List.take (k + 1) (List.take k cs ++ [v]) = cs.take k ++ [v] := by rw [h1]; exact List.take_length
  rw [h2]
  have h3 : List.drop (k + 1 + vs.length) (List.take k cs ++ [v] ++ List.drop (k + 1) cs) = List.drop (k + 1 + vs.length) cs := by
   rw [List.drop_append, List.drop_of_length_le (by simp; omega), List.nil_append, List.drop_drop]
   congr 1
   simp; omega
  simp only [List.length_cons, List.length_nil, Nat.zero_add]
  have h3' : List.drop (k + 1 + vs.length) (List.take k cs ++ [v] ++ List.drop (k + 1) cs) = List.drop (k + (vs.length + 1)) cs := by rw [h3]; congr 1; omega
  rw [h3']
  simp
theorem wp_fbsl {sl e : TypeId} {bytes : Nat} {z : Value} (T : SlT P sl e 1 bytes z) (hF : Fr X w0 w es) {n : Nat} {ps : Array (Nat × Operand)} (ho : o.op = .buildSlice sl n ps) {vs : List Value}
  (hvs : (ps.map fun p => (p.1, a.eval p.2)).toList = parts 0 vs) (hn : vs.length = n) (h16 : n ≤ 16777216) (hc : ∀ v ∈ vs, v.cells = #[v])
  (k : ∀ w' g, Fr X w0 w' (.own w0.heap.size e 1 (.slice (some ⟨g, 0, none⟩) n n) n vs :: es) → w'.heap.size = w.heap.size + 1 → K (a.put o.dst (.slice (some ⟨g, 0, none⟩) n n)) w') : o.wp P a w K Q := by
 obtain ⟨i, hi, hz, hs, hby⟩ := info_parts T.info
 have hzc : (zeroValue e).run P w = .ok z w := by simp [zeroValue, typeInfo, hi, hz]
 have hsz : (sizeOf e).run P w = .ok 1 w := by simp [sizeOf, typeInfo, hi, hs]
 have hown : (w.alloc (.cells vs.toArray e)).ownsRow w0.heap.size e 1 (.slice (some ⟨w.heap.size, 0, none⟩) n n) n vs := by
  have := World.ownsRow_lit (e := e) (size := 1) (base := w0.heap.size) w vs.toArray n hF.size (by unfold maxLen; omega) (by simp [hn])
  simpa using this
 have hF' := hF.more (World.grownBy_alloc w (.cells vs.toArray e) none) (e := .own w0.heap.size e 1 (.slice (some ⟨w.heap.size, 0, none⟩) n n) n vs) hown (fun b hb => by
  have hb : some w.heap.size = some b := hb
  injection hb with hb; omega)
 refine wp_run (v := .slice (some ⟨w.heap.size, 0, none⟩) n n) (w' := w.alloc (.cells vs.toArray e)) ?_ (k _ _ hF' (by simp))
 unfold execOp
 have hle : ¬ n * 1 > 2 ^ 24 := by omega
 have hm := Nat.mul_one n
 by_cases h0 : n = 0
 ·subst h0
  have hv0 : vs = [] := List.eq_nil_of_length_eq_zero hn
  subst hv0
  have hvs' : (ps.map fun p => (p.1, a.eval p.2)).toList = [] := hvs
  simp only [ho, Instr.buildSlice, Sem.run_bind, run_underlying T.und, hsz, Result.andThen_ok, hvs']
  simp [Instr.fill, newRow, Array.range_zero']
 ·have hfill := fill_parts vs 0 (List.replicate n z) (by simp; omega) hc
  have hspl : spl (List.replicate n z) 0 vs = vs := by unfold spl; simp [hn]
  rw [hspl] at hfill
  have hcell : z.cells.size = 1 := T.zs
  have hmap : (Array.range n).map (fun q => z.cells[q % z.cells.size]!) = (List.replicate n z.cells[0]!).toArray := by
   rw [hcell]
   apply Array.ext'
   simp [Nat.mod_one, List.eq_replicate_iff]
  have hf2 : Instr.fill (fun i => some (i * 1, 1)) (List.replicate n z.cells[0]!).toArray (parts 0 vs) = some vs.toArray := by
   rw [fill_parts vs 0 _ (by simp; omega) hc]
   unfold spl; simp [hn]
  have hvs' : (ps.map fun p => (p.1, a.eval p.2)).toList = parts 0 vs := hvs
  have hle' : (n * 1 > 2 ^ 24) = False := eq_false hle
  have h0' : (n * 1 = 0) = False := eq_false (by omega)
  simp only [ho, Instr.buildSlice, Sem.run_bind, run_underlying T.und, hsz, Result.andThen_ok, hvs', hle', h0', if_false, hzc, Sem.run_pure]
  rw [hm, hmap, hf2]
  simp [newRow]
end laws
end Go.Proofs.YtlhicfpmlncomaaGreatDoor

namespace Go.Proofs.YtlhicfpmlncomaaGreatDoor
open Go.RowKit
theorem take_all (cs : List Value) : (cs.drop 0).take cs.length = cs := by rw [List.drop_zero]; exact List.take_length
theorem spl_all {cs ds : List Value} (h : ds.length = cs.length) : spl cs 0 ds = ds := by
 unfold spl
 rw [List.take_zero, List.nil_append, Nat.zero_add, List.drop_of_length_le (by omega), List.append_nil]
section laws
variable {P : Program} {o : Oper} {a : Act} {X : List Nat} {w0 w : World} {es : List Ent} {K : Act → World → Prop} {Q : Exit → Act → World → Prop}
variable {i g : Nat} {t : TypeId} {cs : List Value}
theorem wp_fs2b {sl st e : TypeId} {size bytes : Nat} {z : Value} (T : SlT P sl e size bytes z) (he : P.underlying e = some (.int .u8)) (hst : P.underlying st = some .string) (hF : Fr X w0 w es) {s : ByteArray}
  (ho : IsCv o a st sl (.string s))
  (k : ∀ w' g c, Fr X w0 w' (.rd (some ⟨g, 0, none⟩) 1 s.size (s.data.toList.map bv) :: es) → w'.heap.size = w.heap.size + 1 → s.size ≤ c → K (a.put o.dst (.slice (some ⟨g, 0, none⟩) s.size c)) w') : o.wp P a w K Q := by
 obtain ⟨x, ho, hx⟩ := ho
 have hrun := Lib.run_convert_string_bytes (P := P) w st sl e s hst T.und he
 have hsz := Lib.bytesWorld_size w e s
 have hg : w.grownBy (Lib.bytesWorld w e s) none := ⟨rfl, rfl, rfl, by omega, fun j hj _ => Lib.bytesWorld_at_old w e s j hj⟩
 have hrd : Rd (Lib.bytesWorld w e s) (· < (Lib.bytesWorld w e s).heap.size) (some ⟨w.heap.size, 0, none⟩) 1 s.size (s.data.toList.map bv) := by
  refine ⟨by simp, fun _ => rfl, fun _ => by show w.heap.size < _; omega, fun j u hu => ?_⟩
  have hat : atp (some ⟨w.heap.size, 0, none⟩) j = ⟨w.heap.size, j, none⟩ := by
   unfold atp Addr.add
   by_cases hj : j = 0 <;> simp [hj]
  have hj : j < s.size := by
   have := (List.getElem?_eq_some_iff.1 hu).1
   rw [List.length_map, str_len] at this; exact this
  rw [hat, Lib.bytesWorld_cell w e s j hj]
  rw [List.getElem?_map] at hu
  cases hq : s.data.toList[j]? with
  | none => rw [hq] at hu; cases hu
  | some c =>
   rw [hq] at hu
   rw [List.getD_eq_getElem?_getD, hq]
   exact hu
 have hF' := hF.more hg (e := .rd (some ⟨w.heap.size, 0, none⟩) 1 s.size (s.data.toList.map bv)) ⟨hrd, fun a ha => by injection ha with ha; subst ha; show w.heap.size < _; omega⟩
  (fun b hb => by
   have hb : some w.heap.size = some b := hb
   injection hb with hb; omega)
 refine wp_run (v := .slice (some ⟨w.heap.size, 0, none⟩) s.size (grownCap w s.size 0 e)) (w' := Lib.bytesWorld w e s) ?_ (k _ _ _ hF' hsz (grownCap_ge w s.size 0 e))
 unfold execOp
 simp [ho, hx, hrun]
theorem run_loadF (hF : Fr X w0 w es) (hi : es[i]? = some (.blk g t cs)) {ty : TypeId} {d : TypeDesc} (hu : P.underlying ty = some d) (hd : aggT d = true) (hs : (P.info? ty).map (·.size) = some cs.length) :
  (loadVar ty ⟨g, 0, none⟩).run P w = .ok (.agg cs.toArray) w :=
 run_loadVar_mid w g 0 ty cs d (rangeAt_blk hF hi (by simp)) hu (by cases d <;> simp_all [aggT, TypeDesc.isRow]) hs
theorem results_cellF {fn : Func} {p : Tmp} {ty : TypeId} (h : fn.results = #[.cell p ty]) (tmps : Array Value) (hF : Fr X w0 w es) (hi : es[i]? = some (.blk g t cs)) (hp : tmps.getD p undef = .pointer (some ⟨g, 0, none⟩))
  {d : TypeDesc} (hu : P.underlying ty = some d) (hd : aggT d = true) (hs : (P.info? ty).map (·.size) = some cs.length) : (results fn tmps).run P w = .ok (.agg cs.toArray) w := by
 have hp' : tmps[p]?.getD undef = .pointer (some ⟨g, 0, none⟩) := by simpa using hp
 simp [results, h, hp', asAddr, run_loadF hF hi hu hd hs]
theorem results_cellF2 {fn : Func} {p q : Tmp} {ty : TypeId} (h : fn.results = #[.cell p ty, .tmp q]) (tmps : Array Value) (hF : Fr X w0 w es) (hi : es[i]? = some (.blk g t cs)) (hp : tmps.getD p undef = .pointer (some ⟨g, 0, none⟩))
  {d : TypeDesc} (hu : P.underlying ty = some d) (hd : aggT d = true) (hs : (P.info? ty).map (·.size) = some cs.length) : (results fn tmps).run P w = .ok (.tuple #[.agg cs.toArray, tmps.getD q undef]) w := by
 have hp' : tmps[p]?.getD undef = .pointer (some ⟨g, 0, none⟩) := by simpa using hp
 simp [results, h, hp', asAddr, run_loadF hF hi hu hd hs]
theorem yi_fld {S : World → Prop} {ops : Array Oper} (hw : Region.wanted o (yielded ops a.tmps) = true) (hS : ∀ w, S w → w.heap[g]? = some (.cells cs.toArray t (0, 0))) {e : TypeId} {d : TypeDesc} (hu : P.underlying e = some d) (hd : aggT d = false) {off : Nat} (ho : IsLd o a e ⟨g, off, none⟩) {u : Value} (hc : cs[off]? = some u) :
  YieldsIf P ops S o u a := .inl ⟨hw, fun w hw => by
 obtain ⟨x, ho, hx⟩ := ho
 have hcell : w.cell? ⟨g, off, none⟩ = some u := by rw [cell_of_row w g off _ t (0, 0) (hS w hw)]; simpa using hc
 have hagg := run_isAgg hu w
 rw [hd] at hagg
 unfold execOp
 simp [ho, hx, Instr.loadAt, Instr.sureAddr, loadVar, hagg, hcell]⟩
theorem yi_fldA {S : World → Prop} {ops : Array Oper} (hw : Region.wanted o (yielded ops a.tmps) = true) (hS : ∀ w, S w → w.heap[g]? = some (.cells cs.toArray t (0, 0))) {e : TypeId} {d : TypeDesc} (hu : P.underlying e = some d) (hd : aggT d = true) {off : Nat} (ho : IsLd o a e ⟨g, off, none⟩) {ds : List Value}
  (hs : (P.info? e).map (·.size) = some ds.length) (hc : (cs.drop off).take ds.length = ds) : YieldsIf P ops S o (.agg ds.toArray) a := by
 obtain ⟨x, ho, hx⟩ := ho
 refine yieldsIf_load_mid hw e x ho g off hx ds d (fun w hw j v hv => ?_) hu (by cases d <;> simp_all [aggT, TypeDesc.isRow]) hs
 rw [cell_of_row w g (off + j) _ t (0, 0) (hS w hw)]
 rw [← hc, List.getElem?_take] at hv
 split at hv
 ·rw [List.getElem?_drop] at hv; simpa using hv
 ·cases hv
theorem run_cmp {α : Type} [Inhabited α] (w : World) (s0 s1 : α) (F : Nat → α → Sem (ForInStep α)) (l m : List UInt8) (hlm : l.length = m.length) (hF : ∀ (k : Nat) (c c' : UInt8), l[k]? = some c → m[k]? = some c' → (F k s0).run P w = .ok (if c == c' then .yield s0 else .done s1) w) :
  ∀ (j k : Nat), k + j = l.length → (forIn (List.range' k j) s0 F).run P w = .ok (if l.drop k == m.drop k then s0 else s1) w
 | 0, k, h => by
  rw [List.drop_of_length_le (by omega), List.drop_of_length_le (by omega)]
  simp
 | j + 1, k, h => by
  have hl : k < l.length := by omega
  have hm : k < m.length := by omega
  have h1 := hF k l[k] m[k] (by simp) (by simp)
  rw [List.range'_succ, List.forIn_cons, Sem.run_bind, h1, List.drop_eq_getElem_cons hl, List.drop_eq_getElem_cons hm]
  by_cases hc : l[k] = m[k]
  ·have ih := run_cmp w s0 s1 F l m hlm hF j (k + 1) (by omega)
   simp only [hc, beq_self_eq_true, if_true, Result.andThen_ok, ih, List.cons_beq_cons, Bool.true_and]
  ·have hb : (l[k] == m[k]) = false := by simpa using hc
   simp only [hb, Bool.false_eq_true, if_false, Result.andThen_ok, List.cons_beq_cons, Bool.false_and, Sem.run_pure]
theorem run_eqBytes {e : TypeId} {n : Nat} (ht : P.underlying t = some (.array n e)) (he : P.underlying e = some (.int .u8)) (hs : (P.info? e).map (·.size) = some 1) (l m : List UInt8) (hl : l.length = n) (hm : m.length = n) (d : Nat) (w : World) :
  (Op.equalIn (d + 2) t (.agg (l.map bv).toArray) (.agg (m.map bv).toArray)).run P w = .ok (l == m) w := by
 obtain ⟨j, hj, hsz⟩ := Option.map_eq_some_iff.1 hs
 have hagg : (isAgg e).run P w = .ok false w := run_isAgg he w
 have hpart : ∀ (l : List UInt8) (k : Nat) (c : UInt8), l[k]? = some c → (part e (l.map bv).toArray (k * 1)).run P w = .ok (bv c) w := fun l k c hc => by
  simp [part, hagg, hc]
 have hcmp : ∀ c c' : UInt8, (Op.equalIn (d + 1) e (bv c) (bv c')).run P w = .ok (c == c') w := fun c c' => by
  unfold bv
  rw [run_equalIn_int w d e .u8 .u8 _ _ he]
  congr 1
  rw [Bool.eq_iff_iff, beq_iff_eq, beq_iff_eq]
  exact ⟨fun h => UInt8.toNat_inj.1 (by omega), fun h => by rw [h]⟩
 have hso : (sizeOf e).run P w = .ok 1 w := by simp [sizeOf, typeInfo, hj, hsz]
 rw [Op.equalIn]
 simp only [Sem.run_bind, run_underlying ht, Result.andThen_ok, hso, Std.Legacy.Range.forIn_eq_forIn_range']
 have hsize : (Std.Legacy.Range.mk 0 n 1 (by omega)).size = n := by simp [Std.Legacy.Range.size]
 rw [hsize, run_cmp (P := P) w (none, ()) (some false, ()) _ l m (by omega) ?_ n 0 (by omega)]
 ·simp only [List.drop_zero, Result.andThen_ok]
  cases l == m <;> simp
 ·intro k c c' hc hc'
  simp only [Sem.run_bind, hpart l k c hc, hpart m k c' hc', Result.andThen_ok, hcmp]
  cases c == c' <;> simp
end laws
section
variable {w0 w : World} {X : List Nat} {es : List Ent}
end
end Go.Proofs.YtlhicfpmlncomaaGreatDoor

namespace Go.Proofs.YtlhicfpmlncomaaGreatDoor
open Go.RowKit
section laws
variable {P : Program} {o : Oper} {a : Act} {X : List Nat} {w0 w : World} {es : List Ent} {K : Act → World → Prop} {Q : Exit → Act → World → Prop}
variable {g : Nat} {t : TypeId} {cs : List Value} {e0 e1 e2 e3 e4 e5 : Ent}
theorem wp_fld0 (hF : Fr X w0 w (.blk g t cs :: es)) {e : TypeId} {d : TypeDesc} (hu : P.underlying e = some d) (hd : aggT d = false) {off : Nat} (ho : IsLd o a e ⟨g, off, none⟩) {u : Value} (hc : cs[off]? = some u) (k : K (a.put o.dst u) w) : o.wp P a w K Q :=
 wp_fld hF (i := 0) rfl hu hd ho hc k
theorem wp_fldA0 (hF : Fr X w0 w (.blk g t cs :: es)) {e : TypeId} {d : TypeDesc} (hu : P.underlying e = some d) (hd : aggT d = true) {off : Nat} (ho : IsLd o a e ⟨g, off, none⟩) {ds : List Value} (hs : (P.info? e).map (·.size) = some ds.length) (hc : (cs.drop off).take ds.length = ds) (k : K (a.put o.dst (.agg ds.toArray)) w) : o.wp P a w K Q :=
 wp_fldA hF (i := 0) rfl hu hd ho hs hc k
theorem wp_fst0 (hF : Fr X w0 w (.blk g t cs :: es)) {e : TypeId} {off : Nat} {v : Value} (ho : IsSt o a e ⟨g, off, none⟩ v) (hs : (P.info? e).map (·.size) = some 1) (hv : v.cells = #[v]) (h1 : v.oneCell' = true) (hl : off < cs.length) {cs' : List Value} (hcs : spl cs off [v] = cs')
  (k : ∀ w', Fr X w0 w' (.blk g t cs' :: es) → w'.heap.size = w.heap.size → K (a.put o.dst undef) w') : o.wp P a w K Q := by
 subst hcs; exact wp_fst hF (i := 0) rfl ho hs hv h1 hl k
theorem wp_fstA0 (hF : Fr X w0 w (.blk g t cs :: es)) {e : TypeId} {off : Nat} {ds : List Value} (ho : IsSt o a e ⟨g, off, none⟩ (.agg ds.toArray)) (hs : (P.info? e).map (·.size) = some ds.length) (h1 : ∀ u ∈ ds, u.oneCell' = true) (hl : off + ds.length ≤ cs.length) {cs' : List Value} (hcs : spl cs off ds = cs')
  (k : ∀ w', Fr X w0 w' (.blk g t cs' :: es) → w'.heap.size = w.heap.size → K (a.put o.dst undef) w') : o.wp P a w K Q := by
 subst hcs; exact wp_fstA hF (i := 0) rfl ho hs h1 hl k
theorem wp_fcopy0 {dT sT el : TypeId} (hu : P.underlying dT = some (.slice el)) (hs : (P.info? el).map (·.size) = some 1) (hF : Fr X w0 w (.blk g t cs :: es)) {S : Nat → Prop} {A : Option Addr} {off n m c dc : Nat} {xs : List Value} (hr : Rd w S A 1 m xs) (h1 : ∀ u ∈ xs, u.oneCell' = true)
  {d s : Operand} (ho : o.op = .call { callee := .builtin .copy, args := #[d, s], argTypes := #[dT, sT] }) (hd : a.eval d = .slice (some ⟨g, off, none⟩) n dc) (hsrc : a.eval s = .slice A m c) (hl : off + n ≤ cs.length) {cs' : List Value} (hcs : spl cs off (xs.take n) = cs')
  (k : ∀ w', Fr X w0 w' (.blk g t cs' :: es) → w'.heap.size = w.heap.size → K (a.put o.dst (goInt (Nat.min m n))) w') : o.wp P a w K Q := by
 subst hcs; exact wp_fcopy hu hs hF (i := 0) rfl hr h1 ho hd hsrc hl k
theorem Fr.rdOwn0 {b : Nat} {e : TypeId} {size n m c : Nat} {A : Option Addr} {xs : List Value} (hF : Fr X w0 w (.own b e size (.slice A n c) m xs :: es)) : Rd w (· < w.heap.size) A size n xs := hF.rdOwn (i := 0) rfl
theorem wp_fld1 (hF : Fr X w0 w (e0 :: .blk g t cs :: es)) {e : TypeId} {d : TypeDesc} (hu : P.underlying e = some d) (hd : aggT d = false) {off : Nat} (ho : IsLd o a e ⟨g, off, none⟩) {u : Value} (hc : cs[off]? = some u) (k : K (a.put o.dst u) w) : o.wp P a w K Q :=
 wp_fld hF (i := 1) rfl hu hd ho hc k
theorem wp_fldA1 (hF : Fr X w0 w (e0 :: .blk g t cs :: es)) {e : TypeId} {d : TypeDesc} (hu : P.underlying e = some d) (hd : aggT d = true) {off : Nat} (ho : IsLd o a e ⟨g, off, none⟩) {ds : List Value} (hs : (P.info? e).map (·.size) = some ds.length) (hc : (cs.drop off).take ds.length = ds) (k : K (a.put o.dst (.agg ds.toArray)) w) : o.wp P a w K Q :=
 wp_fldA hF (i := 1) rfl hu hd ho hs hc k
theorem wp_fst1 (hF : Fr X w0 w (e0 :: .blk g t cs :: es)) {e : TypeId} {off : Nat} {v : Value} (ho : IsSt o a e ⟨g, off, none⟩ v) (hs : (P.info? e).map (·.size) = some 1) (hv : v.cells = #[v]) (h1 : v.oneCell' = true) (hl : off < cs.length) {cs' : List Value} (hcs : spl cs off [v] = cs')
  (k : ∀ w', Fr X w0 w' (e0 :: .blk g t cs' :: es) → w'.heap.size = w.heap.size → K (a.put o.dst undef) w') : o.wp P a w K Q := by
 subst hcs; exact wp_fst hF (i := 1) rfl ho hs hv h1 hl k
theorem wp_fstA1 (hF : Fr X w0 w (e0 :: .blk g t cs :: es)) {e : TypeId} {off : Nat} {ds : List Value} (ho : IsSt o a e ⟨g, off, none⟩ (.agg ds.toArray)) (hs : (P.info? e).map (·.size) = some ds.length) (h1 : ∀ u ∈ ds, u.oneCell' = true) (hl : off + ds.length ≤ cs.length) {cs' : List Value} (hcs : spl cs off ds = cs')
  (k : ∀ w', Fr X w0 w' (e0 :: .blk g t cs' :: es) → w'.heap.size = w.heap.size → K (a.put o.dst undef) w') : o.wp P a w K Q := by
 subst hcs; exact wp_fstA hF (i := 1) rfl ho hs h1 hl k
theorem wp_fapp1 {sl e : TypeId} (T : SlT P sl e 1 1 (.int .u8 0)) {b : Nat} {v : Value} {l : List UInt8} (hF : Fr X w0 w (e0 :: .bytes b e v l :: es)) (hb : b ≤ w0.heap.size) {S : Nat → Prop} {A : Option Addr} {m c : Nat} {l' : List UInt8} (hr : Rd w S A 1 m (l'.map bv))
  (ho : IsApp o a sl v (.slice A m c)) (hroom : l.length + m ≤ 140737488355328)
  (k : ∀ v' w', Fr X w0 w' (e0 :: Ent.bytes b e v' (l ++ l') :: es) → w.heap.size ≤ w'.heap.size → K (a.put o.dst v') w') : o.wp P a w K Q :=
 wp_fapp T hF (i := 1) rfl hb hr ho hroom k
theorem wp_fld2 (hF : Fr X w0 w (e0 :: e1 :: .blk g t cs :: es)) {e : TypeId} {d : TypeDesc} (hu : P.underlying e = some d) (hd : aggT d = false) {off : Nat} (ho : IsLd o a e ⟨g, off, none⟩) {u : Value} (hc : cs[off]? = some u) (k : K (a.put o.dst u) w) : o.wp P a w K Q :=
 wp_fld hF (i := 2) rfl hu hd ho hc k
theorem wp_fldA2 (hF : Fr X w0 w (e0 :: e1 :: .blk g t cs :: es)) {e : TypeId} {d : TypeDesc} (hu : P.underlying e = some d) (hd : aggT d = true) {off : Nat} (ho : IsLd o a e ⟨g, off, none⟩) {ds : List Value} (hs : (P.info? e).map (·.size) = some ds.length) (hc : (cs.drop off).take ds.length = ds) (k : K (a.put o.dst (.agg ds.toArray)) w) : o.wp P a w K Q :=
 wp_fldA hF (i := 2) rfl hu hd ho hs hc k
theorem wp_fst2 (hF : Fr X w0 w (e0 :: e1 :: .blk g t cs :: es)) {e : TypeId} {off : Nat} {v : Value} (ho : IsSt o a e ⟨g, off, none⟩ v) (hs : (P.info? e).map (·.size) = some 1) (hv : v.cells = #[v]) (h1 : v.oneCell' = true) (hl : off < cs.length) {cs' : List Value} (hcs : spl cs off [v] = cs')
  (k : ∀ w', Fr X w0 w' (e0 :: e1 :: .blk g t cs' :: es) → w'.heap.size = w.heap.size → K (a.put o.dst undef) w') : o.wp P a w K Q := by
 subst hcs; exact wp_fst hF (i := 2) rfl ho hs hv h1 hl k
theorem wp_fstA2 (hF : Fr X w0 w (e0 :: e1 :: .blk g t cs :: es)) {e : TypeId} {off : Nat} {ds : List Value} (ho : IsSt o a e ⟨g, off, none⟩ (.agg ds.toArray)) (hs : (P.info? e).map (·.size) = some ds.length) (h1 : ∀ u ∈ ds, u.oneCell' = true) (hl : off + ds.length ≤ cs.length) {cs' : List Value} (hcs : spl cs off ds = cs')
  (k : ∀ w', Fr X w0 w' (e0 :: e1 :: .blk g t cs' :: es) → w'.heap.size = w.heap.size → K (a.put o.dst undef) w') : o.wp P a w K Q := by
 subst hcs; exact wp_fstA hF (i := 2) rfl ho hs h1 hl k
theorem wp_fapp2 {sl e : TypeId} (T : SlT P sl e 1 1 (.int .u8 0)) {b : Nat} {v : Value} {l : List UInt8} (hF : Fr X w0 w (e0 :: e1 :: .bytes b e v l :: es)) (hb : b ≤ w0.heap.size) {S : Nat → Prop} {A : Option Addr} {m c : Nat} {l' : List UInt8} (hr : Rd w S A 1 m (l'.map bv))
  (ho : IsApp o a sl v (.slice A m c)) (hroom : l.length + m ≤ 140737488355328)
  (k : ∀ v' w', Fr X w0 w' (e0 :: e1 :: Ent.bytes b e v' (l ++ l') :: es) → w.heap.size ≤ w'.heap.size → K (a.put o.dst v') w') : o.wp P a w K Q :=
 wp_fapp T hF (i := 2) rfl hb hr ho hroom k
theorem wp_fld3 (hF : Fr X w0 w (e0 :: e1 :: e2 :: .blk g t cs :: es)) {e : TypeId} {d : TypeDesc} (hu : P.underlying e = some d) (hd : aggT d = false) {off : Nat} (ho : IsLd o a e ⟨g, off, none⟩) {u : Value} (hc : cs[off]? = some u) (k : K (a.put o.dst u) w) : o.wp P a w K Q :=
 wp_fld hF (i := 3) rfl hu hd ho hc k
theorem wp_fldA3 (hF : Fr X w0 w (e0 :: e1 :: e2 :: .blk g t cs :: es)) {e : TypeId} {d : TypeDesc} (hu : P.underlying e = some d) (hd : aggT d = true) {off : Nat} (ho : IsLd o a e ⟨g, off, none⟩) {ds : List Value} (hs : (P.info? e).map (·.size) = some ds.length) (hc : (cs.drop off).take ds.length = ds) (k : K (a.put o.dst (.agg ds.toArray)) w) : o.wp P a w K Q :=
 wp_fldA hF (i := 3) rfl hu hd ho hs hc k
theorem wp_fst3 (hF : Fr X w0 w (e0 :: e1 :: e2 :: .blk g t cs :: es)) {e : TypeId} {off : Nat} {v : Value} (ho : IsSt o a e ⟨g, off, none⟩ v) (hs : (P.info? e).map (·.size) = some 1) (hv : v.cells = #[v]) (h1 : v.oneCell' = true) (hl : off < cs.length) {cs' : List Value} (hcs : spl cs off [v] = cs')
  (k : ∀ w', Fr X w0 w' (e0 :: e1 :: e2 :: .blk g t cs' :: es) → w'.heap.size = w.heap.size → K (a.put o.dst undef) w') : o.wp P a w K Q := by
 subst hcs; exact wp_fst hF (i := 3) rfl ho hs hv h1 hl k
theorem wp_fstA3 (hF : Fr X w0 w (e0 :: e1 :: e2 :: .blk g t cs :: es)) {e : TypeId} {off : Nat} {ds : List Value} (ho : IsSt o a e ⟨g, off, none⟩ (.agg ds.toArray)) (hs : (P.info? e).map (·.size) = some ds.length) (h1 : ∀ u ∈ ds, u.oneCell' = true) (hl : off + ds.length ≤ cs.length) {cs' : List Value} (hcs : spl cs off ds = cs')
  (k : ∀ w', Fr X w0 w' (e0 :: e1 :: e2 :: .blk g t cs' :: es) → w'.heap.size = w.heap.size → K (a.put o.dst undef) w') : o.wp P a w K Q := by
 subst hcs; exact wp_fstA hF (i := 3) rfl ho hs h1 hl k
theorem wp_fapp3 {sl e : TypeId} (T : SlT P sl e 1 1 (.int .u8 0)) {b : Nat} {v : Value} {l : List UInt8} (hF : Fr X w0 w (e0 :: e1 :: e2 :: .bytes b e v l :: es)) (hb : b ≤ w0.heap.size) {S : Nat → Prop} {A : Option Addr} {m c : Nat} {l' : List UInt8} (hr : Rd w S A 1 m (l'.map bv))
  (ho : IsApp o a sl v (.slice A m c)) (hroom : l.length + m ≤ 140737488355328)
  (k : ∀ v' w', Fr X w0 w' (e0 :: e1 :: e2 :: Ent.bytes b e v' (l ++ l') :: es) → w.heap.size ≤ w'.heap.size → K (a.put o.dst v') w') : o.wp P a w K Q :=
 wp_fapp T hF (i := 3) rfl hb hr ho hroom k
theorem wp_fld4 (hF : Fr X w0 w (e0 :: e1 :: e2 :: e3 :: .blk g t cs :: es)) {e : TypeId} {d : TypeDesc} (hu : P.underlying e = some d) (hd : aggT d = false) {off : Nat} (ho : IsLd o a e ⟨g, off, none⟩) {u : Value} (hc : cs[off]? = some u) (k : K (a.put o.dst u) w) : o.wp P a w K Q :=
 wp_fld hF (i := 4) rfl hu hd ho hc k
theorem wp_fldA4 (hF : Fr X w0 w (e0 :: e1 :: e2 :: e3 :: .blk g t cs :: es)) {e : TypeId} {d : TypeDesc} (hu : P.underlying e = some d) (hd : aggT d = true) {off : Nat} (ho : IsLd o a e ⟨g, off, none⟩) {ds : List Value} (hs : (P.info? e).map (·.size) = some ds.length) (hc : (cs.drop off).take ds.length = ds) (k : K (a.put o.dst (.agg ds.toArray)) w) : o.wp P a w K Q :=
 wp_fldA hF (i := 4) rfl hu hd ho hs hc k
theorem wp_fst4 (hF : Fr X w0 w (e0 :: e1 :: e2 :: e3 :: .blk g t cs :: es)) {e : TypeId} {off : Nat} {v : Value} (ho : IsSt o a e ⟨g, off, none⟩ v) (hs : (P.info? e).map (·.size) = some 1) (hv : v.cells = #[v]) (h1 : v.oneCell' = true) (hl : off < cs.length) {cs' : List Value} (hcs : spl cs off [v] = cs')
  (k : ∀ w', Fr X w0 w' (e0 :: e1 :: e2 :: e3 :: .blk g t cs' :: es) → w'.heap.size = w.heap.size → K (a.put o.dst undef) w') : o.wp P a w K Q := by
 subst hcs; exact wp_fst hF (i := 4) rfl ho hs hv h1 hl k
theorem wp_fstA4 (hF : Fr X w0 w (e0 :: e1 :: e2 :: e3 :: .blk g t cs :: es)) {e : TypeId} {off : Nat} {ds : List Value} (ho : IsSt o a e ⟨g, off, none⟩ (.agg ds.toArray)) (hs : (P.info? e).map (·.size) = some ds.length) (h1 : ∀ u ∈ ds, u.oneCell' = true) (hl : off + ds.length ≤ cs.length) {cs' : List Value} (hcs : spl cs off ds = cs')
  (k : ∀ w', Fr X w0 w' (e0 :: e1 :: e2 :: e3 :: .blk g t cs' :: es) → w'.heap.size = w.heap.size → K (a.put o.dst undef) w') : o.wp P a w K Q := by
 subst hcs; exact wp_fstA hF (i := 4) rfl ho hs h1 hl k
theorem wp_fldA5 (hF : Fr X w0 w (e0 :: e1 :: e2 :: e3 :: e4 :: .blk g t cs :: es)) {e : TypeId} {d : TypeDesc} (hu : P.underlying e = some d) (hd : aggT d = true) {off : Nat} (ho : IsLd o a e ⟨g, off, none⟩) {ds : List Value} (hs : (P.info? e).map (·.size) = some ds.length) (hc : (cs.drop off).take ds.length = ds) (k : K (a.put o.dst (.agg ds.toArray)) w) : o.wp P a w K Q :=
 wp_fldA hF (i := 5) rfl hu hd ho hs hc k
end laws
end Go.Proofs.YtlhicfpmlncomaaGreatDoor

namespace Go.Proofs.YtlhicfpmlncomaaGreatDoor
open Go.RowKit
section
variable {X : List Nat} {w0 w : World} {es : List Ent}
end
section
variable {P : Program} {o : Oper} {a : Act} {w : World} {K : Act → World → Prop} {Q : Exit → Act → World → Prop}
theorem wp_call {f : FuncId} {fn : Func} {args : Array Operand} {ts : Array TypeId} {vs : Array Value} (hf : P.funcs[f]? = some fn) (hb : fn.body.isNone = false) (hn : (fn.name == "runtime.NumGoroutine") = false)
  (ho : o.op = .call { callee := .value (.func f), args := args, argTypes := ts }) (hv : args.map a.eval = vs) {R : Ending → World → Prop} (hc : Calls P f vs w R) (k : ∀ e w', R e w' → ∃ v, e = .returned v ∧ K (a.put o.dst v) w') : o.wp P a w K Q := by
 have hrun : (execOp a.eval o).run P w = .ok (.enter f vs) w := by
  unfold execOp
  have hn' : ¬ fn.name = "runtime.NumGoroutine" := by simpa using hn
  have hb' : ¬ fn.body = none := by
   intro h
   rw [h] at hb
   cases hb
  simp only [ho, resolve, Act.eval, Deferred.ofValue, invoke, callFunc, Sem.run_bind, Sem.run_pure, Result.andThen_ok, run_program, hf, ← hv]
  simp [hn', hb']
 unfold Oper.wp
 rw [hrun, Oper.upon_enter]
 refine hc.mono fun e w' hR => ?_
 obtain ⟨v, rfl, hK⟩ := k e w' hR
 exact hK
end
end Go.Proofs.YtlhicfpmlncomaaGreatDoor

namespace Go.Proofs.YtlhicfpmlncomaaGreatDoor
open Go.RowKit
section laws
variable {P : Program} {o : Oper} {a : Act} {X : List Nat} {w0 w : World} {es : List Ent} {K : Act → World → Prop} {Q : Exit → Act → World → Prop}
theorem wp_fappG {sl e : TypeId} {size bytes : Nat} {z : Value} (T : SlT P sl e size bytes z) (hF : Fr X w0 w es) {i b : Nat} {v : Value} {n : Nat} {xs : List Value} (hi : es[i]? = some (.own b e size v n xs)) (hb : b ≤ w0.heap.size) {S : Nat → Prop} {A : Option Addr} {m c : Nat} {news : List Value} (hr : Rd w S A size m news) (h1 : ∀ u ∈ news, u.oneCell' = true)
  (ho : IsApp o a sl v (.slice A m c)) (h63 : n + m ≤ maxLen) (hbytes : (n + m) * bytes ≤ 140737488355328)
  (k : ∀ v' w', Fr X w0 w' (es.set i (.own b e size v' (n + m) (xs ++ news))) → w.heap.size ≤ w'.heap.size → K (a.put o.dst v') w') : o.wp P a w K Q := by
 have hown : w.ownsRow b e size v n xs := hF.holds i _ hi
 have hbw : b ≤ w.heap.size := Nat.le_trans hb hF.size
 refine wp_app T hown hr ho h1 h63 hbytes hbw fun v' w' h2 h3 h4 => k v' w' (hF.put hi h3 h2 (h4.imp id fun h b hb => ?_)) h3.size
 have hb : v'.ownBlock = some b := hb
 rw [h] at hb; injection hb with hb; omega
theorem wp_loadA {S : Nat → Prop} {A : Option Addr} {n size : Nat} {xs : List Value} (hr : Rd w S A size n xs) {e : TypeId} {j : Nat} {d : TypeDesc} (hu : P.underlying e = some d) (hd : aggT d = true) (ho : IsLd o a e (atp A j)) {ds : List Value} (hs : (P.info? e).map (·.size) = some ds.length)
  (hc : (xs.drop j).take ds.length = ds) (k : K (a.put o.dst (.agg ds.toArray)) w) : o.wp P a w K Q := by
 obtain ⟨x, ho, hx⟩ := ho
 have hagg := run_isAgg hu w
 rw [hd] at hagg
 obtain ⟨i, hi, hsz⟩ := Option.map_eq_some_iff.1 hs
 have hl : (loadCells (atp A j) ds.length).run P w = .ok ds.toArray w := run_loadCells_list (P := P) w (atp A j) ds (fun q v hv => by
  unfold atp
  rw [add_add]
  refine hr.cell (j + q) v ?_
  rw [← hc, List.getElem?_take] at hv
  split at hv
  ·rw [List.getElem?_drop] at hv; exact hv
  ·cases hv)
 refine wp_run (v := .agg ds.toArray) (w' := w) ?_ k
 unfold execOp
 simp [ho, hx, Instr.loadAt, Instr.sureAddr, loadVar, hagg, sizeOf, typeInfo, hi, hsz, hl]
theorem wp_fbs1 {sl e : TypeId} {size bytes : Nat} {z : Value} (T : SlT P sl e size bytes z) (hF : Fr X w0 w es) {x : Operand} (ho : o.op = .buildSlice sl 1 #[(0, x)]) {ds : List Value} (hx : (a.eval x).cells = ds.toArray) (hds : ds.length = size) (h16 : size ≤ 16777216)
  (k : ∀ w' g, Fr X w0 w' (.own w0.heap.size e size (.slice (some ⟨g, 0, none⟩) 1 1) 1 ds :: es) → w'.heap.size = w.heap.size + 1 → K (a.put o.dst (.slice (some ⟨g, 0, none⟩) 1 1)) w') : o.wp P a w K Q := by
 obtain ⟨i, hi, hz, hs, hby⟩ := info_parts T.info
 have hzc : (zeroValue e).run P w = .ok z w := by simp [zeroValue, typeInfo, hi, hz]
 have hsz : (sizeOf e).run P w = .ok size w := by simp [sizeOf, typeInfo, hi, hs]
 have hown : (w.alloc (.cells ds.toArray e)).ownsRow w0.heap.size e size (.slice (some ⟨w.heap.size, 0, none⟩) 1 1) 1 ds := by
  have := World.ownsRow_lit (e := e) (size := size) (base := w0.heap.size) w ds.toArray 1 hF.size (by unfold maxLen; omega) (by simp [hds])
  simpa using this
 have hF' := hF.more (World.grownBy_alloc w (.cells ds.toArray e) none) (e := .own w0.heap.size e size (.slice (some ⟨w.heap.size, 0, none⟩) 1 1) 1 ds) hown (fun b hb => by
  have hb : some w.heap.size = some b := hb
  injection hb with hb; omega)
 refine wp_run (v := .slice (some ⟨w.heap.size, 0, none⟩) 1 1) (w' := w.alloc (.cells ds.toArray e)) ?_ (k _ _ hF' (by simp))
 have hpos := T.pos
 have hcell := T.zs
 have hmap : ((Array.range (1 * size)).map (fun q => z.cells[q % z.cells.size]!)).toList.length = size := by simp
 have hf := fill_step (place := fun i => some (i * size, size)) (cells := ((Array.range (1 * size)).map (fun q => z.cells[q % z.cells.size]!)).toList) (i := 0) (off := 0 * size) (size := size) (v := a.eval x) (rest := []) rfl (by rw [hx]; simpa using hds) (by rw [hmap]; omega)
 rw [hx] at hf
 have hspl : spl ((Array.range (1 * size)).map (fun q => z.cells[q % z.cells.size]!)).toList (0 * size) ds.toArray.toList = ds := by
  rw [Nat.zero_mul]; exact spl_all (by rw [hmap]; simpa using hds)
 rw [hspl, Array.toArray_toList] at hf
 have hle' : (1 * size > 2 ^ 24) = False := eq_false (by omega)
 have h0' : (1 * size = 0) = False := eq_false (by omega)
 have hp : (#[(0, x)] : Array (Nat × Operand)).map (fun p => (p.1, a.eval p.2)) = #[(0, a.eval x)] := by simp
 unfold execOp
 simp only [ho, Instr.buildSlice, Sem.run_bind, run_underlying T.und, hsz, Result.andThen_ok, hp, hle', h0', if_false, hzc, Sem.run_pure]
 rw [hf]
 simp [Instr.fill, newRow]
end laws
end Go.Proofs.YtlhicfpmlncomaaGreatDoor

namespace Go.Proofs.YtlhicfpmlncomaaGreatDoor
open Go.RowKit
section
variable {X : List Nat} {w0 w w' : World} {es es' : List Ent}
theorem app_at {α : Type} {l l' : List α} {i : Nat} {x : α} (h : (l ++ l')[i]? = some x) : (l[i]? = some x ∧ i < l.length) ∨ (l'[i - l.length]? = some x ∧ l.length ≤ i) := by
 rcases Nat.lt_or_ge i l.length with h1 | h1
 ·rw [List.getElem?_append_left h1] at h; exact .inl ⟨h, h1⟩
 ·rw [List.getElem?_append_right h1] at h; exact .inr ⟨h, h1⟩
theorem Fr.join (h : Fr X w0 w es) (h' : Fr [] w w' es') : Fr X w0 w' (es' ++ es) := by
 have hg := h.grow (grown_of_below h'.below)
 have old : ∀ {i : Nat} {e : Ent}, es'[i]? = some e → ∀ b, e.block = some b → w.heap.size ≤ b := fun {i e} hi b hb => by simpa using h'.fresh i e hi b hb
 have part : ∀ {i j : Nat} {e f : Ent}, es'[i]? = some e → es[j]? = some f → e.apart f := fun {i j e f} hi hj => by
  unfold Ent.apart
  cases hb : e.block with
  | none => exact .inl rfl
  | some b => exact .inr fun he => h.old hj (old hi b hb) he.symm
 refine ⟨hg.os, hg.tape, hg.output, hg.size, hg.block, fun i e hi => ?_, fun i e hi b hb => ?_, fun i j e f hi hj hij => ?_⟩
 ·rcases app_at hi with ⟨h1, _⟩ | ⟨h1, _⟩
  ·exact h'.holds i e h1
  ·exact hg.holds _ e h1
 ·rcases app_at hi with ⟨h1, _⟩ | ⟨h1, _⟩
  ·exact .inl (Nat.le_trans h.size (old h1 b hb))
  ·exact h.fresh _ e h1 b hb
 ·rcases app_at hi with ⟨h1, i1⟩ | ⟨h1, i1⟩
  ·rcases app_at hj with ⟨h2, j1⟩ | ⟨h2, j1⟩
   ·exact h'.apart i j e f h1 h2 hij
   ·exact part h1 h2
  ·rcases app_at hj with ⟨h2, j1⟩ | ⟨h2, j1⟩
   ·exact (part h2 h1).symm
   ·exact h.apart _ _ e f h1 h2 (by omega)
theorem Fr.picks (h : Fr X w0 w es) (is : List Nat) {fs : List Ent} (hx : is.map (fun i => es[i]?) = fs.map some) (nd : is.Nodup) : Fr X w0 w fs := by
 have key : ∀ (j : Nat) (f : Ent), fs[j]? = some f → ∃ i, is[j]? = some i ∧ es[i]? = some f := fun j f hj => by
  have h1 : (is.map (fun i => es[i]?))[j]? = some (some f) := by rw [hx, List.getElem?_map, hj]; rfl
  rw [List.getElem?_map] at h1
  cases hi : is[j]? with
  | none => rw [hi] at h1; cases h1
  | some i => rw [hi] at h1; exact ⟨i, rfl, by simpa using h1⟩
 refine ⟨h.os, h.tape, h.output, h.size, h.block, fun j f hj => ?_, fun j f hj b hb => ?_, fun j k f f' hj hk hjk => ?_⟩
 ·obtain ⟨i, _, hi⟩ := key j f hj; exact h.holds i f hi
 ·obtain ⟨i, _, hi⟩ := key j f hj; exact h.fresh i f hi b hb
 ·obtain ⟨i, h1, hi⟩ := key j f hj
  obtain ⟨i', h2, hi'⟩ := key k f' hk
  refine h.apart i i' f f' hi hi' fun he => hjk ?_
  subst he
  obtain ⟨l1, e1⟩ := List.getElem?_eq_some_iff.1 h1
  obtain ⟨l2, e2⟩ := List.getElem?_eq_some_iff.1 h2
  have hp := List.pairwise_iff_getElem.1 nd
  rcases Nat.lt_trichotomy j k with h3 | h3 | h3
  ·exact absurd (e1.trans e2.symm) (hp j k l1 l2 h3)
  ·exact h3
  ·exact absurd (e2.trans e1.symm) (hp k j l2 l1 h3)
theorem Fr.none_ (h : Fr X w0 w es) (b : Nat) (e : TypeId) (size : Nat) : Fr X w0 w (.own b e size (.slice none 0 0) 0 [] :: es) :=
 h.push (e := .own b e size (.slice none 0 0) 0 []) (World.ownsRow_nil _ _ _ _) fun b hb => by cases hb
theorem own_parts {b : Nat} {e : TypeId} {size n : Nat} {v : Value} {xs : List Value} (h : w.ownsRow b e size v n xs) : ∃ A c, v = .slice A n c ∧ n ≤ c := by
 rcases h.2 with ⟨h1, h2⟩ | ⟨g, cap, cur, h1, _, _, h2, _⟩
 ·subst h2; exact ⟨none, 0, h1, Nat.le_refl _⟩
 ·exact ⟨_, _, h1, h2⟩
theorem Fr.ownParts (h : Fr X w0 w es) {i b : Nat} {e : TypeId} {size n : Nat} {v : Value} {xs : List Value} (hi : es[i]? = some (.own b e size v n xs)) : ∃ A c, v = .slice A n c ∧ n ≤ c := own_parts (w := w) (h.holds i _ hi)
end
end Go.Proofs.YtlhicfpmlncomaaGreatDoor

namespace Go.Proofs.YtlhicfpmlncomaaGreatDoor
open Go.RowKit
section
variable {P : Program} {o : Oper} {a : Act}
theorem yi_run {S : World → Prop} {ops : Array Oper} {v : Value} (hw : Region.wanted o (yielded ops a.tmps) = true) (h : ∀ w, S w → (execOp a.eval o).run P w = .ok (.value v) w) : YieldsIf P ops S o v a := .inl ⟨hw, h⟩
theorem yi_ix {S : World → Prop} {ops : Array Oper} (hw : Region.wanted o (yielded ops a.tmps) = true) {t e : TypeId} {size bytes : Nat} {z : Value} (T : SlT P t e size bytes z) {A : Option Addr} {n k : Nat} {j : Int} (hA : 0 < n → A = some (A.getD default))
  (ho : IsIx o a t A n j) (hj : j = (k : Int)) (hk : k < n) : YieldsIf P ops S o (.pointer (some (atp A (k * size)))) a := by
 refine yi_run hw fun w _ => ?_
 obtain ⟨x, i, c, kd, ho, hx, hi⟩ := ho
 obtain ⟨i', hi', _, hsz, _⟩ := info_parts T.info
 have hA := hA (by omega)
 have he : P.elem t = e := by simp [Program.elem, T.und]
 subst hj
 unfold execOp
 have hrun := run_indexAt_slice (P := P) w t (A.getD default) n c kd (k : Int) (by rw [he]; exact T.und)
 rw [if_pos ⟨by omega, by omega⟩] at hrun
 simp only [ho, hx, hi]
 rw [hA]
 simp [hrun, he, sizeOf, typeInfo, hi', hsz, atp]
theorem yi_ld {S : World → Prop} {ops : Array Oper} (hw : Region.wanted o (yielded ops a.tmps) = true) {S' : World → Nat → Prop} {A : Option Addr} {n size : Nat} {xs : List Value} (hr : ∀ w, S w → Rd w (S' w) A size n xs) {e : TypeId} {j : Nat} {u : Value} {d : TypeDesc} (hu : P.underlying e = some d) (hd : aggT d = false)
  (ho : IsLd o a e (atp A j)) (hj : xs[j]? = some u) : YieldsIf P ops S o u a := by
 refine yi_run hw fun w hS => ?_
 obtain ⟨x, ho, hx⟩ := ho
 have hc := (hr w hS).cell j u hj
 have hagg := run_isAgg hu w
 rw [hd] at hagg
 unfold execOp
 simp [ho, hx, Instr.loadAt, Instr.sureAddr, loadVar, hagg, hc]
theorem yi_ldA {S : World → Prop} {ops : Array Oper} (hw : Region.wanted o (yielded ops a.tmps) = true) {S' : World → Nat → Prop} {A : Option Addr} {n size : Nat} {xs : List Value} (hr : ∀ w, S w → Rd w (S' w) A size n xs) {e : TypeId} {j : Nat} {d : TypeDesc} (hu : P.underlying e = some d) (hd : aggT d = true)
  (ho : IsLd o a e (atp A j)) {ds : List Value} (hs : (P.info? e).map (·.size) = some ds.length) (hc : (xs.drop j).take ds.length = ds) : YieldsIf P ops S o (.agg ds.toArray) a := by
 refine yi_run hw fun w hS => ?_
 obtain ⟨x, ho, hx⟩ := ho
 have hagg := run_isAgg hu w
 rw [hd] at hagg
 obtain ⟨i, hi, hsz⟩ := Option.map_eq_some_iff.1 hs
 have hl : (loadCells (atp A j) ds.length).run P w = .ok ds.toArray w := run_loadCells_list (P := P) w (atp A j) ds (fun q v hv => by
  unfold atp
  rw [add_add]
  refine (hr w hS).cell (j + q) v ?_
  rw [← hc, List.getElem?_take] at hv
  split at hv
  ·rw [List.getElem?_drop] at hv; exact hv
  ·cases hv)
 unfold execOp
 simp [ho, hx, Instr.loadAt, Instr.sureAddr, loadVar, hagg, sizeOf, typeInfo, hi, hsz, hl]
end
end Go.Proofs.YtlhicfpmlncomaaGreatDoor

namespace Go.Proofs.YtlhicfpmlncomaaGreatDoor
open Go.RowKit
def rdrL (A : Option Addr) (n c : Nat) (p m : Nat) : List Value := [.slice A n c, .int .i64 (p : Int), .int .i64 (m : Int)]
def flt (x : Nat × Nat) : Ending := .panicked [{ v := .iface 123 (.agg #[.int .i64 (x.1 : Int), .int .i64 (x.2 : Int)]), recovered := false }]
set_option maxRecDepth 20000 in
theorem fail_any (v : Value) (p e : Nat) (w : World) :
  Calls Tryz.prog 65 #[v, .int .i64 (p : Int), .int .i64 (e : Int)] w fun x w' => x = flt (p, e) ∧ w = w' := by
 go_enter Tryz.func65, Tryz.ntmps65
 go_wp2
 exact ⟨rfl, rfl, rfl⟩
def jEnd {α : Type} (r : JR α) (f : α → Ending) : Ending :=
 match r with
 | .ok a => f a
 | .error x => flt x
section
variable {w : World} {g : Nat} {A : Option Addr} {n c p m : Nat}
theorem rdr_b (hh : w.heap[g]? = some (.cells (rdrL A n c p m).toArray 127 (0, 0))) : w.cell? ⟨g, 0, none⟩ = some (.slice A n c) := by
 rw [cell_of_row w g 0 _ _ (0, 0) hh]; rfl
theorem rdr_p (hh : w.heap[g]? = some (.cells (rdrL A n c p m).toArray 127 (0, 0))) : w.cell? ⟨g, 1, none⟩ = some (.int .i64 (p : Int)) := by
 rw [cell_of_row w g 1 _ _ (0, 0) hh]; rfl
end
set_option maxRecDepth 20000 in
set_option maxHeartbeats 800000 in
theorem next_any (g : Nat) (A : Option Addr) (n c p m : Nat) (b : List UInt8) (w : World) (S : Nat → Prop) (hh : w.heap[g]? = some (.cells (rdrL A n c p m).toArray 127 (0, 0))) (hr : Rd w S A 1 n (b.map bv)) :
  Calls Tryz.prog 85 #[.pointer (some ⟨g, 0, none⟩)] w fun e w' => e = jEnd (jNext b p) (fun c => .returned (bv c)) ∧ ∃ k, w' = w.drewN k := by
 have hl := hr.bytes_len
 have h0 := rdr_b hh
 have h1 := rdr_p hh
 clear hh
 by_cases hlt : p < n
 ·obtain ⟨ad, x, hA, hx, hcx⟩ := hr.atB hlt
  have hj : jNext b p = .ok x := by unfold jNext; rw [hx]
  rw [hj]
  replace hx := box hx
  clear hr
  subst hA
  go_enter Tryz.func85, Tryz.ntmps85
  go_wp2
  go_quiet (fail)
  go_wp2
  go_quiet (fail)
  go_wp2
  go_ret
  exact ⟨rfl, _, World.drewN_drewN _ _ _⟩
 ·have hj : jNext b p = .error (n, 9) := by unfold jNext; rw [List.getElem?_eq_none (by omega), hl]
  rw [hj]
  have hfl := box (fun v w => fail_any v n 9 w)
  go_enter Tryz.func85, Tryz.ntmps85
  go_wp2
  go_quiet (fail)
  go_wp2_with fail
  refine (hfl.out _ _).mono ?_
  rintro e w1 ⟨rfl, rfl⟩
  dsimp only [flt]
  go_wp2
  exact ⟨rfl, rfl, _, rfl⟩
section
variable {g : Nat} {A : Option Addr} {n c p m : Nat} {b : List UInt8} {w : World} {S : Nat → Prop}
theorem next_q {x : UInt8} (hx : b[p]? = some x) (hh : w.heap[g]? = some (.cells (rdrL A n c p m).toArray 127 (0, 0))) (hr : Rd w S A 1 n (b.map bv)) (k : Nat) :
  Calls Tryz.prog 85 #[.pointer (some ⟨g, 0, none⟩)] (w.drewN k) fun e w' => e = .returned (.int .u8 (x.toNat : Int)) ∧ ∃ m, w' = w.drewN m := by
 refine (next_any g A n c p m b (w.drewN k) S hh ⟨hr.len, hr.some_, hr.inS, hr.cell⟩).mono ?_
 rintro e w' ⟨rfl, j, rfl⟩
 unfold jNext
 rw [hx]
 exact ⟨rfl, _, World.drewN_drewN _ _ _⟩
theorem next_x (hx : b[p]? = none) (hh : w.heap[g]? = some (.cells (rdrL A n c p m).toArray 127 (0, 0))) (hr : Rd w S A 1 n (b.map bv)) :
  Calls Tryz.prog 85 #[.pointer (some ⟨g, 0, none⟩)] w fun e w' => e = flt (b.length, 9) ∧ Below w.heap.size w w' := by
 refine (next_any g A n c p m b w S hh hr).mono ?_
 rintro e w' ⟨rfl, j, rfl⟩
 unfold jNext
 rw [hx]
 exact ⟨rfl, below_drewN (Below.refl _ _) _⟩
end
theorem wp_callP {P : Program} {o : Oper} {a : Act} {w : World} {K : Act → World → Prop} {Q : Exit → Act → World → Prop} {f : FuncId} {fn : Func} {args : Array Operand} {ts : Array TypeId} {vs : Array Value} (hf : P.funcs[f]? = some fn) (hb : fn.body.isNone = false) (hn : (fn.name == "runtime.NumGoroutine") = false)
  (ho : o.op = .call { callee := .value (.func f), args := args, argTypes := ts }) (hv : args.map a.eval = vs) {R : Ending → World → Prop} (hc : Calls P f vs w R) (k : ∀ e w', R e w' → ∃ ch, e = .panicked ch ∧ Q (.panic ch) a w') : o.wp P a w K Q := by
 have hrun : (execOp a.eval o).run P w = .ok (.enter f vs) w := by
  unfold execOp
  have hn' : ¬ fn.name = "runtime.NumGoroutine" := by simpa using hn
  have hb' : ¬ fn.body = none := by
   intro h
   rw [h] at hb
   cases hb
  simp only [ho, resolve, Act.eval, Deferred.ofValue, invoke, callFunc, Sem.run_bind, Sem.run_pure, Result.andThen_ok, run_program, hf, ← hv]
  simp [hn', hb']
 unfold Oper.wp
 rw [hrun, Oper.upon_enter]
 refine hc.mono fun e w' hR => ?_
 obtain ⟨v, rfl, hK⟩ := k e w' hR
 exact hK
end Go.Proofs.YtlhicfpmlncomaaGreatDoor

namespace Go.Proofs.YtlhicfpmlncomaaGreatDoor
open Go.RowKit
section
variable {P : Program} {ops : Array Oper} {Q : Exit → Act → World → Prop} {md : Region.Mode} {S : World → Prop} {oi : Oper} {v : Value} {fuel : Nat} {listed : Array Bool} {a : Act} {w : World}
theorem tkp (i : Nat) (hS : S w) (h : wpAnyH P md ops Q S fuel (listed.setIfInBounds i true) (a.put oi.dst v) w)
  (hi : ops[i]? = some oi := by first | (simp only [List.getElem?_toArray, List.getElem?_cons_zero]; rfl) | (simp only [List.getElem?_toArray, List.getElem?_cons_zero, List.getElem?_cons_succ]; rfl)) (hs : Region.noSelect ops = true := by kernel_rfl) (hf : Region.free md ops listed i = true := by kernel_rfl) (hr : (Region.ready md ops listed).contains i = true := by kernel_rfl)
  (hQ : ∀ c a w, Q (.panic c) (a.put oi.dst v) w → Q (.panic c) a w := by exact fun _ _ _ h => h) (hw : Region.wanted oi (yielded ops a.tmps) = true := by with_unfolding_all rfl)
  (hy : ∀ w, S w → (execOp a.eval oi).run P w = .ok (.value v) w := by intro w hSw; (try dsimp only at hSw); go_simp; try with_reducible rfl) : wpAnyH P md ops Q S (fuel + 1) listed a w :=
 wpAnyH_take hi hs hf hr hQ (.inl ⟨hw, hy⟩) hS h
theorem tky (i : Nat)
  (hi : ops[i]? = some oi := by first | (simp only [List.getElem?_toArray, List.getElem?_cons_zero]; rfl) | (simp only [List.getElem?_toArray, List.getElem?_cons_zero, List.getElem?_cons_succ]; rfl)) (hs : Region.noSelect ops = true := by kernel_rfl) (hf : Region.free md ops listed i = true := by kernel_rfl) (hr : (Region.ready md ops listed).contains i = true := by kernel_rfl)
  (y : YieldsIf P ops S oi v a) (s : S w) (h : wpAnyH P md ops Q S fuel (listed.setIfInBounds i true) (a.put oi.dst v) w)
  (hQ : ∀ c a w, Q (.panic c) (a.put oi.dst v) w → Q (.panic c) a w := by exact fun _ _ _ h => h) : wpAnyH P md ops Q S (fuel + 1) listed a w :=
 wpAnyH_take hi hs hf hr hQ y s h
theorem rdy1 (i : Nat) {o : Oper} (h : ∀ K' : Act → World → Prop, Shut (∀ a w, S w → (S w → wpAnyH P md ops Q S fuel (listed.setIfInBounds i true) a w) → K' a w) → if Region.wanted o (yielded ops a.tmps) = true then Oper.wp P o a w K' Q else K' (a.put o.dst undef) w)
  (hr : Region.ready md ops listed = [i] := by kernel_rfl) (ho : ops[i]? = some o := by first | (simp only [List.getElem?_toArray, List.getElem?_cons_zero]; rfl) | (simp only [List.getElem?_toArray, List.getElem?_cons_zero, List.getElem?_cons_succ]; rfl)) : wpAnyH P md ops Q S (fuel + 1) listed a w :=
 wpAnyH_ready hr (by simp) (.cons ho h .nil)
end
end Go.Proofs.YtlhicfpmlncomaaGreatDoor

namespace Go.Proofs.YtlhicfpmlncomaaGreatDoor
open Go.RowKit
section
variable {w w' : World} {g B : Nat} {es : List Ent} {A : Option Addr} {size n c p m : Nat}
theorem Fr.rdB {xs : List Value} (hF : Fr [g] w w' es) (hg : B ≤ g) (hB : B ≤ w.heap.size) (hr : Rd w (· < B) A size n xs) : Rd w' (· < B) A size n xs :=
 ⟨hr.len, hr.some_, hr.inS, fun j u hu => by
  rw [← hr.cell j u hu]
  have hb := hr.inS (hr.pos_of hu)
  refine World.cell?_of_block (w := w) ?_
  rw [atp_block]
  exact hF.block _ (by omega) (by simp; omega)⟩
theorem rdrL_len : (rdrL A n c p m).length = 3 := rfl
theorem rdrL_at {v : Int} {q : Nat} (h : v = (q : Int)) : spl (rdrL A n c p m) 1 [.int .i64 v] = rdrL A n c q m := by subst h; rfl
theorem rdrL_it {v : Int} {q : Nat} (h : v = (q : Int)) : spl (rdrL A n c p m) 2 [.int .i64 v] = rdrL A n c p q := by subst h; rfl
end
theorem u8_ne {c d : UInt8} (h : c ≠ d) : ((c.toNat : Int) == (d.toNat : Int)) = false := by
 rw [beq_eq_false_iff_ne]; intro he; exact h (UInt8.toNat_inj.1 (by omega))
theorem jBlanks_go {b : List UInt8} {p : Nat} {x : UInt8} (hx : b[p]? = some x) (h : jBlank x = true) : jBlanks b p = jBlanks b (p + 1) := by
 have hp := (List.getElem?_eq_some_iff.1 hx).1
 unfold jBlanks
 rw [List.drop_eq_getElem_cons hp, (List.getElem?_eq_some_iff.1 hx).2, List.takeWhile_cons, if_pos h, List.length_cons]
 omega
theorem jBlanks_stop {b : List UInt8} {p : Nat} {x : UInt8} (hx : b[p]? = some x) (h : jBlank x = false) : jBlanks b p = p := by
 have hp := (List.getElem?_eq_some_iff.1 hx).1
 unfold jBlanks
 rw [List.drop_eq_getElem_cons hp, (List.getElem?_eq_some_iff.1 hx).2, List.takeWhile_cons, if_neg (by rw [h]; decide)]
 rfl
theorem jBlanks_end {b : List UInt8} {p : Nat} (hx : b.length ≤ p) : jBlanks b p = p := by
 unfold jBlanks
 rw [List.drop_of_length_le hx]
 rfl
theorem jBlanks_le (b : List UInt8) {p : Nat} (h : p ≤ b.length) : jBlanks b p ≤ b.length := by
 have := (List.takeWhile_sublist jBlank (l := b.drop p)).length_le
 rw [List.length_drop] at this
 unfold jBlanks
 omega
theorem jBlanks_ge (b : List UInt8) (p : Nat) : p ≤ jBlanks b p := by unfold jBlanks; omega
set_option maxRecDepth 20000 in
set_option maxHeartbeats 3200000 in
theorem blanks_any (g : Nat) (A : Option Addr) (n c p m B : Nat) (b : List UInt8) (w : World) (hh : w.heap[g]? = some (.cells (rdrL A n c p m).toArray 127 (0, 0))) (hg : B ≤ g) (hB : B ≤ w.heap.size) (hn : n ≤ 140737488355000) (hp : p ≤ n) (hr : Rd w (· < B) A 1 n (b.map bv)) :
  Calls Tryz.prog 63 #[.pointer (some ⟨g, 0, none⟩)] w fun e w' => e = .returned (.tuple #[]) ∧ Fr [g] w w' [.blk g 127 (rdrL A n c (jBlanks b p) m)] := by
 have hl := box hr.bytes_len
 have hF0 := Fr.one hh
 clear hh
 go_enter Tryz.func63, Tryz.ntmps63
 go_wp2_with fail
 go_loopg [] (n - p) (fun k wr => ∃ p' : Nat, p' ≤ n ∧ Box (k = n - p') ∧ Box (jBlanks b p = jBlanks b p') ∧ Fr [g] w wr [.blk g 127 (rdrL A n c p' m)])
 case atStart => exact ⟨p, hp, box rfl, box rfl, hF0⟩
 case round =>
  obtain ⟨p', hp', hk, hj, hF⟩ := hrel
  clear hF0
  have h0 := rdr_b (hF.blk (i := 0) rfl)
  have h1 := rdr_p (hF.blk (i := 0) rfl)
  by_cases hlt : p' < n
  ·obtain ⟨ad, x, hA, hx, hcx⟩ := (hF.rdB hg hB hr).atB hlt
   have hxb := x.toNat_lt
   clear hr
   subst hA
   by_cases hx0 : x = 32
   ·subst hx0
    have hgo := box (jBlanks_go hx (by decide))
    replace hx := box hx
    go_wp2
    go_quiet (fail)
    have hFd := hF.drewN nq
    go_wp2_with (first | ((with_reducible refine lsx (wp_fst0 hFd (by with_unfolding_all exact ⟨_, _, rfl, rfl, rfl⟩) (by kernel_rfl) rfl rfl (by rw [rdrL_len]; decide) (rdrL_at (v := (p' : Int) + 1) (q := p' + 1) (by omega)) ?_)); intro w2 hF2 hz2))
    go_roundg (n - (p' + 1))
    case rel => exact ⟨p' + 1, by omega, box rfl, box (hj.out.trans hgo.out), hF2⟩
    case measure => have := hk.out; omega
   ·by_cases hx1 : x = 9
    ·subst hx1
     have hgo := box (jBlanks_go hx (by decide))
     replace hx := box hx
     go_wp2
     go_quiet (fail)
     have hFd := hF.drewN nq
     go_wp2_with (first | ((with_reducible refine lsx (wp_fst0 hFd (by with_unfolding_all exact ⟨_, _, rfl, rfl, rfl⟩) (by kernel_rfl) rfl rfl (by rw [rdrL_len]; decide) (rdrL_at (v := (p' : Int) + 1) (q := p' + 1) (by omega)) ?_)); intro w2 hF2 hz2))
     go_roundg (n - (p' + 1))
     case rel => exact ⟨p' + 1, by omega, box rfl, box (hj.out.trans hgo.out), hF2⟩
     case measure => have := hk.out; omega
    ·by_cases hx2 : x = 10
     ·subst hx2
      have hgo := box (jBlanks_go hx (by decide))
      replace hx := box hx
      go_wp2
      go_quiet (fail)
      have hFd := hF.drewN nq
      go_wp2_with (first | ((with_reducible refine lsx (wp_fst0 hFd (by with_unfolding_all exact ⟨_, _, rfl, rfl, rfl⟩) (by kernel_rfl) rfl rfl (by rw [rdrL_len]; decide) (rdrL_at (v := (p' : Int) + 1) (q := p' + 1) (by omega)) ?_)); intro w2 hF2 hz2))
      go_roundg (n - (p' + 1))
      case rel => exact ⟨p' + 1, by omega, box rfl, box (hj.out.trans hgo.out), hF2⟩
      case measure => have := hk.out; omega
     ·by_cases hx3 : x = 13
      ·subst hx3
       have hgo := box (jBlanks_go hx (by decide))
       replace hx := box hx
       go_wp2
       go_quiet (fail)
       have hFd := hF.drewN nq
       go_wp2_with (first | ((with_reducible refine lsx (wp_fst0 hFd (by with_unfolding_all exact ⟨_, _, rfl, rfl, rfl⟩) (by kernel_rfl) rfl rfl (by rw [rdrL_len]; decide) (rdrL_at (v := (p' : Int) + 1) (q := p' + 1) (by omega)) ?_)); intro w2 hF2 hz2))
       go_roundg (n - (p' + 1))
       case rel => exact ⟨p' + 1, by omega, box rfl, box (hj.out.trans hgo.out), hF2⟩
       case measure => have := hk.out; omega
      ·have hst := box (jBlanks_stop hx (by simp [jBlank, hx0, hx1, hx2, hx3]))
       replace hx := box hx
       have hn0 : ((x.toNat : Int) == 32) = false := u8_ne hx0
       have hn1 : ((x.toNat : Int) == 9) = false := u8_ne hx1
       have hn2 : ((x.toNat : Int) == 10) = false := u8_ne hx2
       have hn3 : ((x.toNat : Int) == 13) = false := u8_ne hx3
       clear hx0 hx1 hx2 hx3
       go_wp2
       go_quiet (fail)
       have hFd := hF.drewN nq
       go_wp2
       go_end0
       rw [hj.out, hst.out]
       exact ⟨rfl, hFd⟩
  ·have hst := box (jBlanks_end (b := b) (p := p') (by have := hl.out; omega))
   go_wp2
   go_quiet (fail)
   have hFd := hF.drewN nq
   go_wp2
   go_end0
   rw [hj.out, hst.out]
   exact ⟨rfl, hFd⟩
end Go.Proofs.YtlhicfpmlncomaaGreatDoor

namespace Go.Proofs.YtlhicfpmlncomaaGreatDoor
open Go.RowKit
def JPost {α : Type} (w : World) (g : Nat) (r : JR α) (ret : α → Ending) (st : α → List Value) (e : Ending) (w' : World) : Prop :=
 match r with
 | .ok a => e = ret a ∧ Fr [g] w w' [.blk g 127 (st a)]
 | .error x => e = flt x ∧ w.grownBy w' (some g)
theorem jWord_le {b : List UInt8} : ∀ {l : List UInt8} {p q : Nat}, jWord b l p = .ok q → q = p + l.length ∧ (l = [] ∨ q ≤ b.length)
 | [], p, q, h => by injection h with h; subst h; exact ⟨rfl, .inl rfl⟩
 | c :: l, p, q, h => by
  unfold jWord at h
  cases hx : b[p]? with
  | none => rw [hx] at h; cases h
  | some x =>
   rw [hx] at h
   simp only [] at h
   split at h
   ·obtain ⟨h1, h2⟩ := jWord_le h
    have hp := (List.getElem?_eq_some_iff.1 hx).1
    refine ⟨by rw [h1, List.length_cons]; omega, .inr ?_⟩
    rcases h2 with rfl | h2
    ·rw [h1, List.length_nil]; omega
    ·exact h2
   ·cases h
set_option maxRecDepth 20000 in
set_option maxHeartbeats 3200000 in
theorem word_any (g : Nat) (A : Option Addr) (n c p m B : Nat) (b : List UInt8) (s : ByteArray) (w : World) (hh : w.heap[g]? = some (.cells (rdrL A n c p m).toArray 127 (0, 0))) (hg : B ≤ g) (hB : B ≤ w.heap.size) (hn : n ≤ 140737488355000) (hp : p ≤ n) (hs : s.size ≤ 1000) (hr : Rd w (· < B) A 1 n (b.map bv)) :
  Calls Tryz.prog 86 #[.pointer (some ⟨g, 0, none⟩), .string s] w (JPost w g (jWord b s.data.toList p) (fun _ => .returned (.tuple #[])) (fun q => rdrL A n c q m)) := by
 have hl := box hr.bytes_len
 have hF0 := Fr.one hh
 clear hh
 go_enter Tryz.func86, Tryz.ntmps86
 go_wp2_with fail
 go_loopg [7] s.size (fun k i wr => ∃ j p' : Nat, j ≤ s.size ∧ Box (k = s.size - j) ∧ i = .int .i64 (j : Int) ∧ p' ≤ n ∧ Box (jWord b s.data.toList p = jWord b (s.data.toList.drop j) p') ∧ Fr [g] w wr [.blk g 127 (rdrL A n c p' m)])
 case atStart => exact ⟨0, p, by omega, box rfl, rfl, hp, box rfl, hF0⟩
 case round =>
  obtain ⟨j, p', hj, hk, rfl, hpj, hw, hF⟩ := hrel
  clear hF0
  by_cases hlt : j < s.size
  ·obtain ⟨y, hy⟩ : ∃ y, s.data.toList[j]? = some y := ⟨s.data.toList[j]'hlt, by simp⟩
   have hdr : s.data.toList.drop j = y :: s.data.toList.drop (j + 1) := by
    rw [List.drop_eq_getElem_cons (by exact hlt), (List.getElem?_eq_some_iff.1 hy).2]
   have hyb := y.toNat_lt
   cases hx : b[p']? with
   | some x =>
    have hxb := x.toNat_lt
    have hnx := box (next_q hx (hF.blk (i := 0) rfl) (hF.rdB hg hB hr))
    have hplt := (List.getElem?_eq_some_iff.1 hx).1
    rw [hl.out] at hplt
    have hsj : s[j] = y := (List.getElem?_eq_some_iff.1 hy).2
    by_cases hxy : x = y
    ·have hq : ((x.toNat : Int) != (y.toNat : Int)) = false := by rw [hxy]; simp
     have hgo : Box (jWord b s.data.toList p = jWord b (s.data.toList.drop (j + 1)) (p' + 1)) := box (by
      rw [hw.out, hdr, jWord, hx]; simp only []; rw [if_pos hxy])
     replace hx := box hx
     replace hxy := box hxy
     clear hy hdr
     go_wp2
     go_quiet (exact hnx.out _)
     have hFd := hF.drewN nq
     have h1 := rdr_p (hFd.blk (i := 0) rfl)
     go_wp2_with (first | ((with_reducible refine lsx (wp_fst0 hFd (by with_unfolding_all exact ⟨_, _, rfl, rfl, rfl⟩) (by kernel_rfl) rfl rfl (by rw [rdrL_len]; decide) (rdrL_at (v := (p' : Int) + 1) (q := p' + 1) (by omega)) ?_)); intro w2 hF2 hz2))
     go_roundg (s.size - (j + 1))
     case rel => exact ⟨j + 1, p' + 1, by omega, box rfl, by go_num, by omega, hgo, hF2⟩
     case measure => have := hk.out; omega
    ·have hq : ((x.toNat : Int) != (y.toNat : Int)) = true := by
      rw [bne_iff_ne]; intro h; exact hxy (UInt8.toNat_inj.1 (by omega))
     have hend : Box (jWord b s.data.toList p = .error (p', 10)) := box (by
      rw [hw.out, hdr, jWord, hx]; simp only []; rw [if_neg hxy])
     replace hx := box hx
     replace hxy := box hxy
     clear hy hdr
     go_wp2
     go_quiet (exact hnx.out _)
     have hFd := hF.drewN nq
     have h1 := rdr_p (hFd.blk (i := 0) rfl)
     have hfl := box (fun v w => fail_any v p' 10 w)
     go_wp2_with fail
     refine (hfl.out _ _).mono ?_
     rintro e w2 ⟨rfl, rfl⟩
     dsimp only [flt]
     go_wp2
     exact ⟨rfl, by unfold JPost; rw [hend.out]; exact ⟨rfl, hFd.grown⟩⟩
   | none =>
    have hend : Box (jWord b s.data.toList p = .error (n, 9)) := box (by
     rw [hw.out, hdr, jWord, hx, hl.out])
    have hnx := box (fun w' (hF : Fr [g] w w' [.blk g 127 (rdrL A n c p' m)]) => next_x hx (hF.blk (i := 0) rfl) (hF.rdB hg hB hr))
    rw [hl.out] at hnx
    replace hx := box hx
    clear hy hdr
    go_wp2
    have hFd := hF.drew
    refine wp_region_held (S := fun _ => True) (by kernel_rfl) ?_
    change wpAnyH _ _ _ _ _ _ _ _ (World.drew _)
    refine tkp 0 trivial ?_
    (try simp only [zP, zQ, zS, zZ, zN])
    refine tkp 2 trivial ?_
    (try simp only [zP, zQ, zS, zZ, zN])
    refine tkp 3 trivial ?_
    (try simp only [zP, zQ, zS, zZ, zN])
    refine tkp 4 trivial ?_
    (try simp only [zP, zQ, zS, zZ, zN])
    refine rdy1 1 (fun K hK => ?_)
    refine stp (by with_unfolding_all rfl) (wp_callP Tryz.func85 rfl (by with_unfolding_all rfl) (by with_unfolding_all rfl) (by with_unfolding_all rfl) (hnx.out _ hFd) ?_)
    rintro e w11 ⟨rfl, hb11⟩
    refine ⟨_, rfl, ?_⟩
    have hF11 := hFd.call hb11
    (try simp only [Exit.inBlock, Exit.then])
    exact ⟨rfl, by unfold JPost; rw [hend.out]; exact ⟨rfl, hF11.grown⟩⟩
  ·have hend : Box (jWord b s.data.toList p = .ok p') := box (by
    rw [hw.out, List.drop_of_length_le (by rw [str_len]; omega), jWord])
   go_wp2
   go_end0
   unfold JPost
   rw [hend.out]
   exact ⟨rfl, hF⟩
end Go.Proofs.YtlhicfpmlncomaaGreatDoor

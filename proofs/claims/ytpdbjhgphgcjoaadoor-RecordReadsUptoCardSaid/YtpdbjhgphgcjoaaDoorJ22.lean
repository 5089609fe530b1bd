/-
  Two structs compared, field by field: whole numbers, texts, yes-or-no, arrays of bytes. No program is named here.
  Layer 14: two records, two heads compared. No program is named here.
-/
import Derived.Test.YtpdbjhgphgcjoaaDoorJ12
import Derived.Test.YtpdbjhgphgcjoaaDoorJ04
import Derived.Laws.StructEq
import Derived.Test.YtpdbjhgphgcjoaaDoorJ18
namespace Go.Proofs.YtpdbjhgphgcjoaaDoor
open Go.RowKit

/-- A field of two structs (cells xs, ys): compared, it is told b. -/
inductive FieldEq (P : Program) (xs ys : List Value) : Field → Bool → Prop
  | int {f : Field} {k k' : IntKind} {a b : Int} (hn : f.name ≠ "_") (ht : P.underlying f.type = some (.int k')) (hx : xs[f.offset]? = some (.int k a)) (hy : ys[f.offset]? = some (.int k b)) : FieldEq P xs ys f (a == b)
  | bool {f : Field} {a b : Bool} (hn : f.name ≠ "_") (ht : P.underlying f.type = some .bool) (hx : xs[f.offset]? = some (.bool a)) (hy : ys[f.offset]? = some (.bool b)) : FieldEq P xs ys f (a == b)
  | str {f : Field} {a b : ByteArray} (hn : f.name ≠ "_") (ht : P.underlying f.type = some .string) (hx : xs[f.offset]? = some (.string a)) (hy : ys[f.offset]? = some (.string b)) : FieldEq P xs ys f (a.toList == b.toList)
  | arr {f : Field} {n : Nat} {u8 : TypeId} {l m : List UInt8} (hn : f.name ≠ "_") (ht : P.underlying f.type = some (.array n u8)) (hs : (P.info? f.type).map (·.size) = some n) (hb : P.underlying u8 = some (.int .u8)) (h1 : (P.info? u8).map (·.size) = some 1)
    (hl : l.length = n) (hm : m.length = n) (hx : (xs.drop f.offset).take n = l.map bv) (hy : (ys.drop f.offset).take n = m.map bv) : FieldEq P xs ys f (l == m)
section
variable {P : Program} {o : Oper} {a : Act} {K : Act → World → Prop} {Q : Exit → Act → World → Prop}
theorem run_part1 {f : Field} {d : TypeDesc} {xs : List Value} {v : Value} (hu : P.underlying f.type = some d) (hd : aggT d = false) (hv : xs[f.offset]? = some v) (w : World) : (part f.type xs.toArray f.offset).run P w = .ok v w := by
  have hagg : (isAgg f.type).run P w = .ok false w := by rw [run_isAgg hu w, hd]
  simp [part, hagg, hv]
theorem run_partA {f : Field} {n : Nat} {u8 : TypeId} {xs ls : List Value} (hu : P.underlying f.type = some (.array n u8)) (hs : (P.info? f.type).map (·.size) = some n) (hv : (xs.drop f.offset).take n = ls) (w : World) : (part f.type xs.toArray f.offset).run P w = .ok (.agg ls.toArray) w := by
  have hagg : (isAgg f.type).run P w = .ok true w := by rw [run_isAgg hu w]; rfl
  obtain ⟨j, hj, hsz⟩ := Option.map_eq_some_iff.1 hs
  have hso : (sizeOf f.type).run P w = .ok n w := by simp [sizeOf, typeInfo, hj, hsz]
  have hex : xs.toArray.extract f.offset (f.offset + n) = ls.toArray := by
    apply Array.ext'
    rw [Array.toList_extract]
    simp only [List.extract]
    rw [Nat.add_sub_cancel_left]
    exact hv
  unfold part
  rw [Sem.run_bind, hagg, Result.andThen_ok]
  simp only [if_true, Sem.run_bind, hso, Result.andThen_ok, Sem.run_pure, hex]
theorem FieldEq.run {xs ys : List Value} {f : Field} {b : Bool} (h : FieldEq P xs ys f b) (k : Nat) (w : World) :
    f.name ≠ "_" ∧ ∃ u v, (part f.type xs.toArray f.offset).run P w = .ok u w ∧ (part f.type ys.toArray f.offset).run P w = .ok v w ∧ (Op.equalIn (k + 2) f.type u v).run P w = .ok b w := by
  cases h with
  | int hn ht hx hy => exact ⟨hn, _, _, run_part1 ht rfl hx w, run_part1 ht rfl hy w, run_equalIn_int w (k + 1) _ _ _ _ _ ht⟩
  | bool hn ht hx hy => exact ⟨hn, _, _, run_part1 ht rfl hx w, run_part1 ht rfl hy w, run_equalIn_bool' w (k + 1) _ _ _ ht⟩
  | str hn ht hx hy => exact ⟨hn, _, _, run_part1 ht rfl hx w, run_part1 ht rfl hy w, run_equalIn_string w (k + 1) _ _ _ ht⟩
  | arr hn ht hs hb h1 hl hm hx hy => exact ⟨hn, _, _, run_partA ht hs hx w, run_partA ht hs hy w, run_eqBytes ht hb h1 _ _ hl hm k w⟩
/-- All fields, one behind the other. -/
inductive FieldsEq (P : Program) (xs ys : List Value) : List Field → Bool → Prop
  | nil : FieldsEq P xs ys [] true
  | cons {f : Field} {fs : List Field} {b c : Bool} (h : FieldEq P xs ys f b) (hs : FieldsEq P xs ys fs c) : FieldsEq P xs ys (f :: fs) (b && c)
theorem FieldsEq.run {xs ys : List Value} (k : Nat) (w : World) : ∀ {fs : List Field} {b : Bool}, FieldsEq P xs ys fs b → (Op.eqFields (k + 2) xs.toArray ys.toArray fs).run P w = .ok b w := by
  intro fs b h
  induction h with
  | nil => simp [Op.eqFields]
  | cons h _ ih =>
    obtain ⟨hn, u, v, p1, p2, p3⟩ := h.run k w
    rename_i b c _
    simp only [Op.eqFields, hn, ne_eq, not_false_eq_true, if_true, Sem.run_bind, p1, p2, p3, Result.andThen_ok]
    cases b <;> simp [ih]
/-- Two structs: compared, they are told b. -/
structure StructEq (P : Program) (t : TypeId) (xs ys : List Value) (b : Bool) : Prop where
  und : P.underlying t = some (.struct (P.fieldsOf t))
  stood : P.stoodInHeld t = false
  grd : P.eqGuardType P.depth t = false
  flds : FieldsEq P xs ys (P.fieldsOf t).toList b
theorem StructEq.run {t : TypeId} {xs ys : List Value} {b : Bool} (h : StructEq P t xs ys b) (k : Nat) (w : World) : (Op.equalIn (k + 3) t (.agg xs.toArray) (.agg ys.toArray)).run P w = .ok b w := by
  rw [run_equalIn_struct w (k + 2) t _ _ h.und h.stood]
  exact FieldsEq.run k w h.flds
theorem yi_build {S : World → Prop} {ops : Array Oper} {t : TypeId} {cs : List Value} (hw : Region.wanted o (yielded ops a.tmps) = true) {fs : Array Field} (hu : P.underlying t = some (.struct fs)) {z : Value} (hz : (P.info? t).map (·.zero) = some (some z)) {pl : List (Nat × Nat)} (hp : fs.toList.map (fun f => (f.offset, (P.info? f.type).map (·.size))) = pl.map (fun p => (p.1, some p.2)))
    {parts : Array (Nat × Operand)} (ho : o.op = .build t parts) {vs : List (Nat × Value)} (hvs : (parts.map fun p => (p.1, a.eval p.2)).toList = vs)
    (hf : Instr.fill (fun i : Nat => pl[i]?) z.cells vs = some cs.toArray) : YieldsIf P ops S o (.agg cs.toArray) a := by
  obtain ⟨j, hj, hzz⟩ := Option.map_eq_some_iff.1 hz
  refine yi_run hw fun w _ => ?_
  have hm : ∀ (fl : List Field) (pl : List (Nat × Nat)), fl.map (fun f => (f.offset, (P.info? f.type).map (·.size))) = pl.map (fun p => (p.1, some p.2)) → (fl.mapM (m := Sem) fun f => do pure (f.offset, ← sizeOf f.type)).run P w = .ok pl w := by
    intro fl
    induction fl with
    | nil => intro pl h; cases pl with
      | nil => simp
      | cons p pl => simp at h
    | cons f fl ih => intro pl h; cases pl with
      | nil => simp at h
      | cons p pl =>
        simp only [List.map_cons, List.cons.injEq, Prod.mk.injEq] at h
        obtain ⟨q, hq, hsz⟩ := Option.map_eq_some_iff.1 h.1.2
        have h1 := ih pl h.2
        have h2 : (sizeOf f.type).run P w = .ok p.2 w := by simp [sizeOf, typeInfo, hq, hsz]
        simp only [List.mapM_cons, Sem.run_bind, h2, Result.andThen_ok, Sem.run_pure, h1, h.1.1]
  have hmm := hm fs.toList pl hp
  have hzc : (zeroValue t).run P w = .ok z w := by simp [zeroValue, typeInfo, hj, hzz]
  have hpm : ((fs.mapM (m := Sem) fun f => do pure (f.offset, ← sizeOf f.type)).run P w) = .ok pl.toArray w := by
    rw [← Array.toArray_toList (xs := fs)]
    rw [List.mapM_toArray, Sem.run_map, hmm, Result.andThen_ok]
  have hvs' : (parts.map fun p => (p.1, a.eval p.2)).toList = vs := hvs
  have hfl : Instr.fill (fun i : Nat => pl.toArray[i]?) z.cells vs = some cs.toArray := by
    have : (fun i : Nat => pl.toArray[i]?) = (fun i : Nat => pl[i]?) := by funext i; simp
    rw [this]; exact hf
  unfold execOp
  simp only [ho, Instr.build, Sem.run_bind, hzc, run_underlying hu, hpm, Result.andThen_ok]
  simp only [hvs', hfl, Sem.run_pure, Result.andThen_ok]
theorem run_eqS {t : TypeId} {xs ys : List Value} {b : Bool} (T : StructEq P t xs ys b) {p q : Operand} {ty : TypeId} (ho : o.op = .binOp .eql t p q ty) (hp : a.eval p = .agg xs.toArray) (hq : a.eval q = .agg ys.toArray) (w : World) :
    (execOp a.eval o).run P w = .ok (.value (.bool b)) w := by
  have h1 := run_eqGuard_agg (P := P) w .eql t p q xs.toArray ys.toArray T.grd
  have h2 := run_eql_struct (P := P) w t xs.toArray ys.toArray
  have h3 := T.run 9997 w
  unfold execOp
  simp only [ho, hp, hq, Sem.run_bind, h1, h2, h3, Result.andThen_ok, Sem.run_pure]
theorem run_neS {t : TypeId} {xs ys : List Value} {b : Bool} (T : StructEq P t xs ys b) {p q : Operand} {ty : TypeId} (ho : o.op = .binOp .neq t p q ty) (hp : a.eval p = .agg xs.toArray) (hq : a.eval q = .agg ys.toArray) (w : World) :
    (execOp a.eval o).run P w = .ok (.value (.bool (!b))) w := by
  have h1 := run_eqGuard_agg (P := P) w .neq t p q xs.toArray ys.toArray T.grd
  have h2 := run_neq_struct (P := P) w t xs.toArray ys.toArray
  have h3 := T.run 9997 w
  unfold execOp
  simp only [ho, hp, hq, Sem.run_bind, h1, h2, h3, Result.andThen_ok, Sem.run_pure]
theorem yi_eqS {S : World → Prop} {ops : Array Oper} (hw : Region.wanted o (yielded ops a.tmps) = true) {t : TypeId} {xs ys : List Value} {b : Bool} (T : StructEq P t xs ys b) {p q : Operand} {ty : TypeId} (ho : o.op = .binOp .eql t p q ty) (hp : a.eval p = .agg xs.toArray) (hq : a.eval q = .agg ys.toArray) : YieldsIf P ops S o (.bool b) a :=
  yi_run hw fun w _ => run_eqS T ho hp hq w
theorem yi_neS {S : World → Prop} {ops : Array Oper} (hw : Region.wanted o (yielded ops a.tmps) = true) {t : TypeId} {xs ys : List Value} {b : Bool} (T : StructEq P t xs ys b) {p q : Operand} {ty : TypeId} (ho : o.op = .binOp .neq t p q ty) (hp : a.eval p = .agg xs.toArray) (hq : a.eval q = .agg ys.toArray) : YieldsIf P ops S o (.bool (!b)) a :=
  yi_run hw fun w _ => run_neS T ho hp hq w
theorem wp_eqS {t : TypeId} {xs ys : List Value} {b : Bool} (T : StructEq P t xs ys b) {p q : Operand} {ty : TypeId} (ho : o.op = .binOp .eql t p q ty) (hp : a.eval p = .agg xs.toArray) (hq : a.eval q = .agg ys.toArray) {w : World} (k : K (a.put o.dst (.bool b)) w) : o.wp P a w K Q :=
  wp_run (v := .bool b) (w' := w) (run_eqS T ho hp hq w) k
theorem wp_neS {t : TypeId} {xs ys : List Value} {b : Bool} (T : StructEq P t xs ys b) {p q : Operand} {ty : TypeId} (ho : o.op = .binOp .neq t p q ty) (hp : a.eval p = .agg xs.toArray) (hq : a.eval q = .agg ys.toArray) {w : World} (k : K (a.put o.dst (.bool (!b))) w) : o.wp P a w K Q :=
  wp_run (v := .bool (!b)) (w' := w) (run_neS T ho hp hq w) k
end
end Go.Proofs.YtpdbjhgphgcjoaaDoor

namespace Go.Proofs.YtpdbjhgphgcjoaaDoor
open Go.RowKit

def sameRc (a b : Rec) : Bool := (a.kind == b.kind) && ((a.repo.toList == b.repo.toList) && ((a.tag.toList == b.tag.toList) && ((a.d == b.d) && ((a.t == b.t) && true))))
def sameHd (a b : Hd) : Bool := (a.size == b.size) && ((a.root == b.root) && ((a.t == b.t) && true))
theorem sameRc_self (a : Rec) : sameRc a a = true := by simp [sameRc]
theorem sameHd_self (a : Hd) : sameHd a a = true := by simp [sameHd]
theorem bytes_toList {a b : ByteArray} (h : a.toList = b.toList) : a = b := by
  rw [ByteArray.toList_eq, ByteArray.toList_eq] at h
  obtain ⟨a⟩ := a
  obtain ⟨b⟩ := b
  exact congrArg ByteArray.mk (Array.ext' h)
theorem sameRc_iff (a b : Rec) : sameRc a b = true ↔ a = b := by
  refine ⟨fun h => ?_, fun h => h ▸ sameRc_self a⟩
  simp only [sameRc, Bool.and_eq_true, beq_iff_eq, and_true] at h
  obtain ⟨h1, h2, h3, h4, h5⟩ := h
  obtain ⟨k, r, t, d, i⟩ := a
  obtain ⟨k', r', t', d', i'⟩ := b
  simp only at h1 h2 h3 h4 h5
  rw [h1, bytes_toList h2, bytes_toList h3, h4, h5]
/-- The fields of a record. -/
structure RecT (P : Program) (t : TypeId) (f0 f1 f2 f3 f4 : Field) (u8 : TypeId) : Prop where
  und : P.underlying t = some (.struct #[f0, f1, f2, f3, f4])
  fld : P.fieldsOf t = #[f0, f1, f2, f3, f4]
  nam : [f0, f1, f2, f3, f4].all (fun f => f.name != "_") = true
  off : [f0, f1, f2, f3, f4].map (·.offset) = [0, 1, 2, 3, 35]
  typ : [f0, f1, f2, f3, f4].map (fun f => P.underlying f.type) = [some (.int .i64), some .string, some .string, some (.array 32 u8), some (.int .i64)]
  siz : (P.info? f3.type).map (·.size) = some 32
  byt : P.underlying u8 = some (.int .u8)
  one : (P.info? u8).map (·.size) = some 1
  stood : P.stoodInHeld t = false
  grd : P.eqGuardType P.depth t = false
structure HdT (P : Program) (t : TypeId) (f0 f1 f2 : Field) (u8 : TypeId) : Prop where
  und : P.underlying t = some (.struct #[f0, f1, f2])
  fld : P.fieldsOf t = #[f0, f1, f2]
  nam : [f0, f1, f2].all (fun f => f.name != "_") = true
  off : [f0, f1, f2].map (·.offset) = [0, 1, 33]
  typ : [f0, f1, f2].map (fun f => P.underlying f.type) = [some (.int .i64), some (.array 32 u8), some (.int .i64)]
  siz : (P.info? f1.type).map (·.size) = some 32
  byt : P.underlying u8 = some (.int .u8)
  one : (P.info? u8).map (·.size) = some 1
  stood : P.stoodInHeld t = false
  grd : P.eqGuardType P.depth t = false
theorem rec_eq {P : Program} {t u8 : TypeId} {f0 f1 f2 f3 f4 : Field} (T : RecT P t f0 f1 f2 f3 f4 u8) {x y : Rec} (hx : x.d.length = 32) (hy : y.d.length = 32) : StructEq P t x.cells y.cells (sameRc x y) := by
  have ho := T.off
  have ht := T.typ
  have hn := T.nam
  simp only [List.map_cons, List.map_nil, List.cons.injEq, and_true] at ho ht
  simp only [List.all_cons, List.all_nil, Bool.and_true, Bool.and_eq_true, bne_iff_ne, ne_eq] at hn
  obtain ⟨o0, o1, o2, o3, o4⟩ := ho
  obtain ⟨t0, t1, t2, t3, t4⟩ := ht
  obtain ⟨n0, n1, n2, n3, n4⟩ := hn
  refine ⟨by rw [T.fld]; exact T.und, T.stood, T.grd, ?_⟩
  rw [T.fld]
  have a35 : ∀ r : Rec, r.d.length = 32 → r.cells[35]? = some (.int .i64 r.t) := fun r hr => rcL_at (by rw [List.length_map]; exact hr)
  have adg : ∀ r : Rec, r.d.length = 32 → (r.cells.drop 3).take 32 = r.d.map bv := fun r hr => rcL_dig (by rw [List.length_map]; exact hr)
  exact .cons (.int n0 t0 (by rw [o0]; rfl) (by rw [o0]; rfl)) (.cons (.str n1 t1 (by rw [o1]; rfl) (by rw [o1]; rfl)) (.cons (.str n2 t2 (by rw [o2]; rfl) (by rw [o2]; rfl)) (.cons (.arr n3 t3 T.siz T.byt T.one hx hy (by rw [o3]; exact adg x hx) (by rw [o3]; exact adg y hy)) (.cons (.int n4 t4 (by rw [o4]; exact a35 x hx) (by rw [o4]; exact a35 y hy)) .nil))))
theorem hd_eq {P : Program} {t u8 : TypeId} {f0 f1 f2 : Field} (T : HdT P t f0 f1 f2 u8) {x y : Hd} (hx : x.root.length = 32) (hy : y.root.length = 32) : StructEq P t x.cells y.cells (sameHd x y) := by
  have ho := T.off
  have ht := T.typ
  have hn := T.nam
  simp only [List.map_cons, List.map_nil, List.cons.injEq, and_true] at ho ht
  simp only [List.all_cons, List.all_nil, Bool.and_true, Bool.and_eq_true, bne_iff_ne, ne_eq] at hn
  obtain ⟨o0, o1, o2⟩ := ho
  obtain ⟨t0, t1, t2⟩ := ht
  obtain ⟨n0, n1, n2⟩ := hn
  refine ⟨by rw [T.fld]; exact T.und, T.stood, T.grd, ?_⟩
  rw [T.fld]
  have a33 : ∀ r : Hd, r.root.length = 32 → r.cells[33]? = some (.int .i64 r.t) := fun r hr => hdL_at (by rw [List.length_map]; exact hr)
  have adg : ∀ r : Hd, r.root.length = 32 → (r.cells.drop 1).take 32 = r.root.map bv := fun r hr => hdL_dig (by rw [List.length_map]; exact hr)
  exact .cons (.int n0 t0 (by rw [o0]; rfl) (by rw [o0]; rfl)) (.cons (.arr n1 t1 T.siz T.byt T.one hx hy (by rw [o1]; exact adg x hx) (by rw [o1]; exact adg y hy)) (.cons (.int n2 t2 (by rw [o2]; exact a33 x hx) (by rw [o2]; exact a33 y hy)) .nil))
end Go.Proofs.YtpdbjhgphgcjoaaDoor

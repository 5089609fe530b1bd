/-
  Layer 7: two references compared. No program is named here.
-/
import Derived.Test.YtgcoebndhnijgaaDoorNRef
import Derived.Test.YtgcoebndhnijgaaDoorFr7
import Derived.Laws.StructEq
namespace Go.Proofs.YtgcoebndhnijgaaDoor
open Go.RowKit

def sameRf (a b : NRef) : Bool := (a.repo.toList == b.repo.toList) && ((a.tag.toList == b.tag.toList) && ((a.pin == b.pin) && (a.d == b.d)))
/-- The fields of a reference. -/
structure RefT (P : Program) (t : TypeId) (f0 f1 f2 f3 : Field) (u8 : TypeId) : Prop where
  und : P.underlying t = some (.struct #[f0, f1, f2, f3])
  nam : [f0, f1, f2, f3].all (fun f => f.name != "_") = true
  off : [f0, f1, f2, f3].map (·.offset) = [0, 1, 2, 3]
  typ : [f0, f1, f2, f3].map (fun f => P.underlying f.type) = [some .string, some .string, some .bool, some (.array 32 u8)]
  siz : (P.info? f3.type).map (·.size) = some 32
  byt : P.underlying u8 = some (.int .u8)
  one : (P.info? u8).map (·.size) = some 1
  stood : P.stoodInHeld t = false
  grd : P.eqGuardType P.depth t = false
section
variable {P : Program} {o : Oper} {a : Act} {w : World} {K : Act → World → Prop} {Q : Exit → Act → World → Prop}
theorem run_eqRef {t u8 : TypeId} {f0 f1 f2 f3 : Field} (T : RefT P t f0 f1 f2 f3 u8) {x y : NRef} (hx : x.d.length = 32) (hy : y.d.length = 32) (k : Nat) (w : World) :
    (Op.equalIn (k + 3) t (.agg x.cells.toArray) (.agg y.cells.toArray)).run P w = .ok (sameRf x y) w := by
  have hf : P.fieldsOf t = #[f0, f1, f2, f3] := by unfold Program.fieldsOf; rw [T.und]
  have ho := T.off
  have ht := T.typ
  have hn := T.nam
  simp only [List.map_cons, List.map_nil, List.cons.injEq, and_true] at ho ht
  simp only [List.all_cons, List.all_nil, Bool.and_true, Bool.and_eq_true, bne_iff_ne, ne_eq] at hn
  obtain ⟨o0, o1, o2, o3⟩ := ho
  obtain ⟨t0, t1, t2, t3⟩ := ht
  obtain ⟨n0, n1, n2, n3⟩ := hn
  rw [run_equalIn_struct w (k + 2) t _ _ (by rw [hf]; exact T.und) T.stood, hf]
  have p1 : ∀ (f : Field) (d : TypeDesc) (r : NRef) (v : Value), P.underlying f.type = some d → aggT d = false → r.cells[f.offset]? = some v → (part f.type r.cells.toArray f.offset).run P w = .ok v w := fun f d r v hu hd hv => by
    have hagg : (isAgg f.type).run P w = .ok false w := by rw [run_isAgg hu w, hd]
    simp [part, hagg, hv]
  have p4 : ∀ (r : NRef), r.d.length = 32 → (part f3.type r.cells.toArray 3).run P w = .ok (.agg (r.d.map bv).toArray) w := fun r hr => by
    have hagg : (isAgg f3.type).run P w = .ok true w := by rw [run_isAgg t3 w]; rfl
    obtain ⟨j, hj, hsz⟩ := Option.map_eq_some_iff.1 T.siz
    have hso : (sizeOf f3.type).run P w = .ok 32 w := by simp [sizeOf, typeInfo, hj, hsz]
    have hex : r.cells.toArray.extract 3 (3 + 32) = (r.d.map bv).toArray := by
      apply Array.ext'
      rw [Array.toList_extract]
      simp only [List.extract]
      show ((r.d.map bv).take 32) = r.d.map bv
      rw [List.take_of_length_le (by simp [hr])]
    unfold part
    rw [Sem.run_bind, hagg, Result.andThen_ok]
    simp only [if_true, Sem.run_bind, hso, Result.andThen_ok, Sem.run_pure, hex]
  have e0 : ∀ r : NRef, r.cells[f0.offset]? = some (.string r.repo) := fun r => by rw [o0]; rfl
  have e1 : ∀ r : NRef, r.cells[f1.offset]? = some (.string r.tag) := fun r => by rw [o1]; rfl
  have e2 : ∀ r : NRef, r.cells[f2.offset]? = some (.bool r.pin) := fun r => by rw [o2]; rfl
  have q0 : (Op.equalIn (k + 2) f0.type (.string x.repo) (.string y.repo)).run P w = .ok (x.repo.toList == y.repo.toList) w := run_equalIn_string w (k + 1) _ _ _ t0
  have q1 : (Op.equalIn (k + 2) f1.type (.string x.tag) (.string y.tag)).run P w = .ok (x.tag.toList == y.tag.toList) w := run_equalIn_string w (k + 1) _ _ _ t1
  have q2 : (Op.equalIn (k + 2) f2.type (.bool x.pin) (.bool y.pin)).run P w = .ok (x.pin == y.pin) w := run_equalIn_bool' w (k + 1) _ _ _ t2
  have q3 : (Op.equalIn (k + 2) f3.type (.agg (x.d.map bv).toArray) (.agg (y.d.map bv).toArray)).run P w = .ok (x.d == y.d) w := run_eqBytes t3 T.byt T.one x.d y.d hx hy k w
  have x0 := p1 f0 _ x _ t0 rfl (e0 x)
  have y0 := p1 f0 _ y _ t0 rfl (e0 y)
  have x1 := p1 f1 _ x _ t1 rfl (e1 x)
  have y1 := p1 f1 _ y _ t1 rfl (e1 y)
  have x2 := p1 f2 _ x _ t2 rfl (e2 x)
  have y2 := p1 f2 _ y _ t2 rfl (e2 y)
  have x3 := p4 x hx
  have y3 := p4 y hy
  unfold sameRf
  simp only [Op.eqFields, n0, n1, n2, n3, not_false_eq_true, if_true, Sem.run_bind, x0, y0, q0, o3, Result.andThen_ok, ne_eq]
  cases (x.repo.toList == y.repo.toList)
  · simp
  · simp only [Bool.not_true, Bool.false_eq_true, if_false, Sem.run_bind, x1, y1, q1, Result.andThen_ok, Bool.true_and]
    cases (x.tag.toList == y.tag.toList)
    · simp
    · simp only [Bool.not_true, Bool.false_eq_true, if_false, Sem.run_bind, x2, y2, q2, Result.andThen_ok, Bool.true_and]
      cases (x.pin == y.pin)
      · simp
      · simp only [Bool.not_true, Bool.false_eq_true, if_false, Sem.run_bind, x3, y3, q3, Result.andThen_ok, Bool.true_and]
        cases (x.d == y.d) <;> simp
theorem yi_eqR {S : World → Prop} {ops : Array Oper} (hw : Region.wanted o (yielded ops a.tmps) = true) {t u8 : TypeId} {f0 f1 f2 f3 : Field} (T : RefT P t f0 f1 f2 f3 u8) {x y : NRef} (hx : x.d.length = 32) (hy : y.d.length = 32)
    {p q : Operand} {ty : TypeId} (ho : o.op = .binOp .eql t p q ty) (hp : a.eval p = .agg x.cells.toArray) (hq : a.eval q = .agg y.cells.toArray) {r : Bool} (hr : sameRf x y = r) : YieldsIf P ops S o (.bool r) a := by
  subst hr
  refine yi_run hw fun w _ => ?_
  have h1 := run_eqGuard_agg (P := P) w .eql t p q x.cells.toArray y.cells.toArray T.grd
  have h2 := run_eql_struct (P := P) w t x.cells.toArray y.cells.toArray
  have h3 := run_eqRef T hx hy 9997 w
  unfold execOp
  simp only [ho, hp, hq, Sem.run_bind, h1, h2, h3, Result.andThen_ok, Sem.run_pure]
theorem wp_eqR {t u8 : TypeId} {f0 f1 f2 f3 : Field} (T : RefT P t f0 f1 f2 f3 u8) {x y : NRef} (hx : x.d.length = 32) (hy : y.d.length = 32)
    {p q : Operand} {ty : TypeId} (ho : o.op = .binOp .eql t p q ty) (hp : a.eval p = .agg x.cells.toArray) (hq : a.eval q = .agg y.cells.toArray) (k : K (a.put o.dst (.bool (sameRf x y))) w) : o.wp P a w K Q := by
  refine wp_run (v := .bool (sameRf x y)) (w' := w) ?_ k
  have h1 := run_eqGuard_agg (P := P) w .eql t p q x.cells.toArray y.cells.toArray T.grd
  have h2 := run_eql_struct (P := P) w t x.cells.toArray y.cells.toArray
  have h3 := run_eqRef T hx hy 9997 w
  unfold execOp
  simp only [ho, hp, hq, Sem.run_bind, h1, h2, h3, Result.andThen_ok, Sem.run_pure]
theorem yi_neR {S : World → Prop} {ops : Array Oper} (hw : Region.wanted o (yielded ops a.tmps) = true) {t u8 : TypeId} {f0 f1 f2 f3 : Field} (T : RefT P t f0 f1 f2 f3 u8) {x y : NRef} (hx : x.d.length = 32) (hy : y.d.length = 32)
    {p q : Operand} {ty : TypeId} (ho : o.op = .binOp .neq t p q ty) (hp : a.eval p = .agg x.cells.toArray) (hq : a.eval q = .agg y.cells.toArray) {r : Bool} (hr : sameRf x y = r) : YieldsIf P ops S o (.bool (!r)) a := by
  subst hr
  refine yi_run hw fun w _ => ?_
  have h1 := run_eqGuard_agg (P := P) w .neq t p q x.cells.toArray y.cells.toArray T.grd
  have h2 := run_neq_struct (P := P) w t x.cells.toArray y.cells.toArray
  have h3 := run_eqRef T hx hy 9997 w
  unfold execOp
  simp only [ho, hp, hq, Sem.run_bind, h1, h2, h3, Result.andThen_ok, Sem.run_pure]
theorem wp_neR {t u8 : TypeId} {f0 f1 f2 f3 : Field} (T : RefT P t f0 f1 f2 f3 u8) {x y : NRef} (hx : x.d.length = 32) (hy : y.d.length = 32)
    {p q : Operand} {ty : TypeId} (ho : o.op = .binOp .neq t p q ty) (hp : a.eval p = .agg x.cells.toArray) (hq : a.eval q = .agg y.cells.toArray) (k : K (a.put o.dst (.bool (!sameRf x y))) w) : o.wp P a w K Q := by
  refine wp_run (v := .bool (!sameRf x y)) (w' := w) ?_ k
  have h1 := run_eqGuard_agg (P := P) w .neq t p q x.cells.toArray y.cells.toArray T.grd
  have h2 := run_neq_struct (P := P) w t x.cells.toArray y.cells.toArray
  have h3 := run_eqRef T hx hy 9997 w
  unfold execOp
  simp only [ho, hp, hq, Sem.run_bind, h1, h2, h3, Result.andThen_ok, Sem.run_pure]
end
end Go.Proofs.YtgcoebndhnijgaaDoor

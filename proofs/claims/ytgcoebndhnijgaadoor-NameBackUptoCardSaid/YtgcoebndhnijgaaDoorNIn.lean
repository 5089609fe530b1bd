/-
  Layer 7: a reference that came in. No program is named here.
-/
import Derived.Test.YtgcoebndhnijgaaDoorIn
import Derived.Test.YtgcoebndhnijgaaDoorNRef
namespace Go.Proofs.YtgcoebndhnijgaaDoor
open Go.ChangeShapes Go.WideShapes Go.ChangeAt Go.RowKit

/-- The fields of a reference: where, of which type, how many cells. -/
structure NRefT (P : Program) (t : TypeId) (fs : Array Field) (f0 f1 f2 f3 : Field) (ub : TypeId) : Prop where
  und : P.underlying t = some (.struct fs)
  size : P.cellsOf t = 35
  at_ : fs = #[f0, f1, f2, f3]
  off : [f0, f1, f2, f3].map (fun f => (f.offset, P.cellsOf f.type)) = [(0, 1), (1, 1), (2, 1), (3, 32)]
  typ : [f0, f1, f2, f3].map (fun f => P.underlying f.type) = [some .string, some .string, some .bool, some (.array 32 ub)]
  byt : P.underlying ub = some (.int .u8)
  one : P.cellsOf ub = 1
section
variable {H : Type} {enc : TypeId × Value → H} {P : Program} {W : World} {hd : Bool}
theorem nref_in {t ub : TypeId} {fs : Array Field} {f0 f1 f2 f3 : Field} (T : NRefT P t fs f0 f1 f2 f3 ub) {r : Reach} {b0 : Nat} {v : Value} {d : DataW H} {ps : List MemPlace} (hv : Value.okWide P W r b0 t v) (h : DataW.Trod enc P W 0 (fun _ => true) hd t v d ps) :
    ∃ q : NRef, v = .agg q.cells.toArray ∧ q.d.length = 32 ∧ q.repo.size ≤ Rows.uptoBulk d ∧ q.tag.size ≤ Rows.uptoBulk d := by
  obtain ⟨cs, rfl, hsz⟩ := okWide_struct T.und hv
  obtain ⟨fuel, hf⟩ := h
  have ho := T.off
  have ht := T.typ
  simp only [List.map_cons, List.map_nil, List.cons.injEq, Prod.mk.injEq, and_true] at ho ht
  obtain ⟨⟨o0, z0⟩, ⟨o1, z1⟩, ⟨o2, z2⟩, ⟨o3, z3⟩⟩ := ho
  obtain ⟨u0, u1, u2, u3⟩ := ht
  have hcells : (Value.agg cs).cells.toList = cs.toList := rfl
  rw [hcells] at hf
  obtain ⟨_, y0, g0, k0⟩ := field_in T.und hf (i := 0) (f := f0) (by rw [T.at_]; rfl)
  obtain ⟨_, y1, g1, k1⟩ := field_in T.und hf (i := 1) (f := f1) (by rw [T.at_]; rfl)
  obtain ⟨_, y2, g2, _⟩ := field_in T.und hf (i := 2) (f := f2) (by rw [T.at_]; rfl)
  obtain ⟨_, y3, g3, _⟩ := field_in T.und hf (i := 3) (f := f3) (by rw [T.at_]; rfl)
  obtain ⟨s0, e0, b0⟩ := strs_in u0 g0
  obtain ⟨s1, e1, b1⟩ := strs_in u1 g1
  obtain ⟨p2, e2⟩ := bools_in u2 g2
  obtain ⟨d3, e3, l3⟩ := arr_in u3 T.byt T.one z3 g3
  rw [o0, z0] at e0
  rw [o1, z1] at e1
  rw [o2, z2] at e2
  rw [o3, z3] at e3
  simp only [] at k0 k1
  refine ⟨⟨s0, s1, p2, d3⟩, ?_, l3, by show s0.size ≤ _; omega, by show s1.size ≤ _; omega⟩
  congr 1
  apply Array.ext'
  have hlen : cs.toList.length = 35 := by rw [Array.length_toList, hsz, T.size]
  rw [show cs.toList = cs.toList.drop 0 from rfl, cut_at cs.toList 0 1, e0, cut_at cs.toList (0 + 1) 1, e1, cut_at cs.toList (0 + 1 + 1) 1, e2, cut_at cs.toList (0 + 1 + 1 + 1) 32, e3, List.drop_of_length_le (by omega)]
  simp [NRef.cells, rfL]
end
end Go.Proofs.YtgcoebndhnijgaaDoor

/-
  Layer 19: a request that came in. No program is named here.
-/
import Derived.Test.YtcnjnkkdidpjiaaIn
import Derived.Test.YtcnjnkkdidpjiaaWSpec
namespace Go.Proofs.Ytcnjnkkdidpjiaa
open Go.ChangeShapes Go.WideShapes Go.ChangeAt Go.RowKit

/-- The fields of a request: where, of which type, how many cells. -/
structure ReqT (P : Program) (t : TypeId) (fs : Array Field) (f0 f1 f2 f3 f4 f5 f6 f7 : Field) (ub : TypeId) : Prop where
  und : P.underlying t = some (.struct fs)
  size : P.cellsOf t = 39
  at_ : fs = #[f0, f1, f2, f3, f4, f5, f6, f7]
  off : [f0, f1, f2, f3, f4, f5, f6, f7].map (fun f => (f.offset, P.cellsOf f.type)) = [(0, 1), (1, 1), (2, 1), (3, 32), (35, 1), (36, 1), (37, 1), (38, 1)]
  typ : [f0, f1, f2, f3, f4, f5, f6, f7].map (fun f => P.underlying f.type) = [some (.int .i64), some .string, some .string, some (.array 32 ub), some (.int .i64), some (.int .i64), some (.int .i64), some (.slice ub)]
  byt : P.underlying ub = some (.int .u8)
  one : P.cellsOf ub = 1

section
variable {H : Type} {enc : TypeId × Value → H} {P : Program} {W : World} {hd : Bool}
theorem req_in {t ub : TypeId} {fs : Array Field} {f0 f1 f2 f3 f4 f5 f6 f7 : Field} (T : ReqT P t fs f0 f1 f2 f3 f4 f5 f6 f7 ub) {r : Reach} {b0 : Nat} {v : Value} {d : DataW H} {ps : List MemPlace} (hv : Value.okWide P W r b0 t v) (h : DataW.Trod enc P W 0 (fun _ => true) hd t v d ps) :
    ∃ (q : Req) (A : Option Addr) (c : Nat), v = .agg (q.cells A c).toArray ∧ q.d.length = 32 ∧ Rd W (· < W.heap.size) A 1 q.body.length (q.body.map bv) ∧ q.body.length ≤ c ∧ c ≤ Rows.uptoBulk d ∧ q.repo.size ≤ Rows.uptoBulk d ∧ q.word.size ≤ Rows.uptoBulk d := by
  obtain ⟨cs, rfl, hsz⟩ := okWide_struct T.und hv
  obtain ⟨fuel, hf⟩ := h
  have ho := T.off
  have ht := T.typ
  simp only [List.map_cons, List.map_nil, List.cons.injEq, Prod.mk.injEq, and_true] at ho ht
  obtain ⟨⟨o0, z0⟩, ⟨o1, z1⟩, ⟨o2, z2⟩, ⟨o3, z3⟩, ⟨o4, z4⟩, ⟨o5, z5⟩, ⟨o6, z6⟩, ⟨o7, z7⟩⟩ := ho
  obtain ⟨u0, u1, u2, u3, u4, u5, u6, u7⟩ := ht
  have hcells : (Value.agg cs).cells.toList = cs.toList := rfl
  rw [hcells] at hf
  obtain ⟨_, y0, g0, _⟩ := field_in T.und hf (i := 0) (f := f0) (by rw [T.at_]; rfl)
  obtain ⟨_, y1, g1, k1⟩ := field_in T.und hf (i := 1) (f := f1) (by rw [T.at_]; rfl)
  obtain ⟨_, y2, g2, k2⟩ := field_in T.und hf (i := 2) (f := f2) (by rw [T.at_]; rfl)
  obtain ⟨_, y3, g3, _⟩ := field_in T.und hf (i := 3) (f := f3) (by rw [T.at_]; rfl)
  obtain ⟨_, y4, g4, _⟩ := field_in T.und hf (i := 4) (f := f4) (by rw [T.at_]; rfl)
  obtain ⟨_, y5, g5, _⟩ := field_in T.und hf (i := 5) (f := f5) (by rw [T.at_]; rfl)
  obtain ⟨_, y6, g6, _⟩ := field_in T.und hf (i := 6) (f := f6) (by rw [T.at_]; rfl)
  obtain ⟨_, y7, g7, k7⟩ := field_in T.und hf (i := 7) (f := f7) (by rw [T.at_]; rfl)
  obtain ⟨n0, e0, _⟩ := ints_in u0 g0
  obtain ⟨s1, e1, b1⟩ := strs_in u1 g1
  obtain ⟨s2, e2, b2⟩ := strs_in u2 g2
  obtain ⟨d3, e3, l3⟩ := arr_in u3 T.byt T.one z3 g3
  obtain ⟨n4, e4, _⟩ := ints_in u4 g4
  obtain ⟨n5, e5, _⟩ := ints_in u5 g5
  obtain ⟨n6, e6, _⟩ := ints_in u6 g6
  obtain ⟨A, len, cap, l, e7, h1, _, h3, h4⟩ := sl_in u7 T.byt T.one g7
  rw [o0, z0] at e0
  rw [o1, z1] at e1
  rw [o2, z2] at e2
  rw [o3, z3] at e3
  rw [o4, z4] at e4
  rw [o5, z5] at e5
  rw [o6, z6] at e6
  rw [o7, z7] at e7
  have hll := h3.bytes_len
  subst hll
  simp only [] at k1 k2 k7
  refine ⟨⟨n0, s1, s2, d3, n4, n5, n6, l⟩, A, cap, ?_, l3, h3, h1, by omega, by show s1.size ≤ _; omega, by show s2.size ≤ _; omega⟩
  congr 1
  apply Array.ext'
  have hlen : cs.toList.length = 39 := by rw [Array.length_toList, hsz, T.size]
  rw [show cs.toList = cs.toList.drop 0 from rfl, cut_at cs.toList 0 1, e0, cut_at cs.toList (0 + 1) 1, e1, cut_at cs.toList (0 + 1 + 1) 1, e2, cut_at cs.toList (0 + 1 + 1 + 1) 32, e3, cut_at cs.toList (0 + 1 + 1 + 1 + 32) 1, e4, cut_at cs.toList (0 + 1 + 1 + 1 + 32 + 1) 1, e5, cut_at cs.toList (0 + 1 + 1 + 1 + 32 + 1 + 1) 1, e6, cut_at cs.toList (0 + 1 + 1 + 1 + 32 + 1 + 1 + 1) 1, e7, List.drop_of_length_le (by omega)]
  simp [Req.cells, rqL]
end
end Go.Proofs.Ytcnjnkkdidpjiaa

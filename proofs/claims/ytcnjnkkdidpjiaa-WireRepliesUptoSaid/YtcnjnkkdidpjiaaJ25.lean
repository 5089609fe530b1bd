/-
  Layer 19: a reply that came in. No program is named here.
-/
import Derived.Test.YtcnjnkkdidpjiaaJ24
import Derived.Test.YtcnjnkkdidpjiaaJ07
namespace Go.Proofs.Ytcnjnkkdidpjiaa
open Go.ChangeShapes Go.WideShapes Go.ChangeAt Go.RowKit

/-- The fields of a reply: where, of which type, how many cells. -/
structure RepT (P : Program) (t : TypeId) (fs : Array Field) (f0 f1 f2 f3 f4 f5 f6 : Field) (ub us ud : TypeId) : Prop where
  und : P.underlying t = some (.struct fs)
  size : P.cellsOf t = 38
  at_ : fs = #[f0, f1, f2, f3, f4, f5, f6]
  off : [f0, f1, f2, f3, f4, f5, f6].map (fun f => (f.offset, P.cellsOf f.type)) = [(0, 1), (1, 32), (33, 1), (34, 1), (35, 1), (36, 1), (37, 1)]
  typ : [f0, f1, f2, f3, f4, f5, f6].map (fun f => P.underlying f.type) = [some (.int .i64), some (.array 32 ub), some (.int .i64), some (.int .i64), some (.slice ub), some (.slice us), some (.slice ud)]
  byt : P.underlying ub = some (.int .u8)
  one : P.cellsOf ub = 1
  str : P.underlying us = some .string
  sone : P.cellsOf us = 1
  sum : P.underlying ud = some (.array 32 ub)
  dig : P.cellsOf ud = 32

theorem flat_str : ∀ l : List ByteArray, l.flatMap (fun s : ByteArray => [Value.string s]) = l.map Value.string
  | [] => rfl
  | s :: l => by rw [List.flatMap_cons, flat_str l]; rfl
theorem flat_sum : ∀ l : List (List UInt8), l.flatMap (fun s : List UInt8 => s.map bv) = sumC l
  | [] => rfl
  | s :: l => by rw [List.flatMap_cons, flat_sum l]; unfold sumC; rw [List.flatten_cons, List.map_append]
section
variable {H : Type} {enc : TypeId × Value → H} {P : Program} {W : World} {hd : Bool}
theorem rep_in {t ub us ud : TypeId} {fs : Array Field} {f0 f1 f2 f3 f4 f5 f6 : Field} (T : RepT P t fs f0 f1 f2 f3 f4 f5 f6 ub us ud) {r : Reach} {b0 : Nat} {v : Value} {d : DataW H} {ps : List MemPlace} (hv : Value.okWide P W r b0 t v) (h : DataW.Trod enc P W 0 (fun _ => true) hd t v d ps) :
    ∃ (q : Rep) (A B C : Option Addr) (c cb cc : Nat), v = .agg (q.cells A B C c cb cc).toArray ∧ RepRd W q A B C ∧ q.body.length ≤ Rows.uptoBulk d ∧ q.words.length ≤ Rows.uptoBulk d ∧ q.sums.length ≤ Rows.uptoBulk d := by
  obtain ⟨cs, rfl, hsz⟩ := okWide_struct T.und hv
  obtain ⟨fuel, hf⟩ := h
  have ho := T.off
  have ht := T.typ
  simp only [List.map_cons, List.map_nil, List.cons.injEq, Prod.mk.injEq, and_true] at ho ht
  obtain ⟨⟨o0, z0⟩, ⟨o1, z1⟩, ⟨o2, z2⟩, ⟨o3, z3⟩, ⟨o4, z4⟩, ⟨o5, z5⟩, ⟨o6, z6⟩⟩ := ho
  obtain ⟨u0, u1, u2, u3, u4, u5, u6⟩ := ht
  have hcells : (Value.agg cs).cells.toList = cs.toList := rfl
  rw [hcells] at hf
  obtain ⟨_, y0, g0, _⟩ := field_in T.und hf (i := 0) (f := f0) (by rw [T.at_]; rfl)
  obtain ⟨_, y1, g1, _⟩ := field_in T.und hf (i := 1) (f := f1) (by rw [T.at_]; rfl)
  obtain ⟨_, y2, g2, _⟩ := field_in T.und hf (i := 2) (f := f2) (by rw [T.at_]; rfl)
  obtain ⟨_, y3, g3, _⟩ := field_in T.und hf (i := 3) (f := f3) (by rw [T.at_]; rfl)
  obtain ⟨_, y4, g4, k4⟩ := field_in T.und hf (i := 4) (f := f4) (by rw [T.at_]; rfl)
  obtain ⟨_, y5, g5, k5⟩ := field_in T.und hf (i := 5) (f := f5) (by rw [T.at_]; rfl)
  obtain ⟨_, y6, g6, k6⟩ := field_in T.und hf (i := 6) (f := f6) (by rw [T.at_]; rfl)
  obtain ⟨n0, e0, _⟩ := ints_in u0 g0
  obtain ⟨d1, e1, l1⟩ := arr_in u1 T.byt T.one z1 g1
  obtain ⟨n2, e2, _⟩ := ints_in u2 g2
  obtain ⟨n3, e3, _⟩ := ints_in u3 g3
  obtain ⟨A, len, cap, l, e4, h1, _, h3, h4⟩ := sl_in u4 T.byt T.one g4
  obtain ⟨B, len5, cap5, l5, e5, h51, _, hl5, hr5, _, hb5⟩ := slG_in u5 T.sone (by decide) (f := fun s : ByteArray => [Value.string s]) (fun n cs x h => by
    obtain ⟨s, hs, _⟩ := strs_in T.str h
    exact ⟨s, hs, rfl⟩) g5
  obtain ⟨C, len6, cap6, l6, e6, h61, _, hl6, hr6, h632, hb6⟩ := slG_in u6 T.dig (by decide) (f := fun s : List UInt8 => s.map bv) (fun n cs x h => by
    obtain ⟨s, hs, hl⟩ := arr_in T.sum T.byt T.one T.dig h
    exact ⟨s, hs, by rw [List.length_map]; exact hl⟩) g6
  rw [o0, z0] at e0
  rw [o1, z1] at e1
  rw [o2, z2] at e2
  rw [o3, z3] at e3
  rw [o4, z4] at e4
  rw [o5, z5] at e5
  rw [o6, z6] at e6
  have hll := h3.bytes_len
  subst hll
  subst hl5
  subst hl6
  rw [flat_str] at hr5
  rw [flat_sum] at hr6
  simp only [] at k4 k5 k6
  refine ⟨⟨n0, d1, n2, n3, l, l5, l6⟩, A, B, C, cap, cap5, cap6, ?_, ⟨l1, h3, hr5, hr6, fun s hs => by have := h632 s hs; rwa [List.length_map] at this⟩, by show l.length ≤ _; omega, by show l5.length ≤ _; omega, by show l6.length ≤ _; omega⟩
  congr 1
  apply Array.ext'
  have hlen : cs.toList.length = 38 := by rw [Array.length_toList, hsz, T.size]
  rw [show cs.toList = cs.toList.drop 0 from rfl, cut_at cs.toList 0 1, e0, cut_at cs.toList (0 + 1) 32, e1, cut_at cs.toList (0 + 1 + 32) 1, e2, cut_at cs.toList (0 + 1 + 32 + 1) 1, e3, cut_at cs.toList (0 + 1 + 32 + 1 + 1) 1, e4, cut_at cs.toList (0 + 1 + 32 + 1 + 1 + 1) 1, e5, cut_at cs.toList (0 + 1 + 32 + 1 + 1 + 1 + 1) 1, e6, List.drop_of_length_le (by omega)]
  simp [Rep.cells, rpL]
end
end Go.Proofs.Ytcnjnkkdidpjiaa

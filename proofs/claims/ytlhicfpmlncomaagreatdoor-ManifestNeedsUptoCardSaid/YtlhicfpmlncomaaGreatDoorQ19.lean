/-
 Layer 8: a document that came in. No program is named here.
 Layer 8: the document's SameNotes at one list twice.
 Layer 8: the document's Same at one document twice.
-/
import Derived.Test.YtlhicfpmlncomaaGreatDoorQ11
import Derived.Test.YtlhicfpmlncomaaGreatDoorQ18
import Derived.Test.YtlhicfpmlncomaaGreatDoorQ03
import Derived.Laws.StructEq
namespace Go.Proofs.YtlhicfpmlncomaaGreatDoor
open Go.ChangeShapes Go.WideShapes Go.ChangeAt Go.RowKit
set_option linter.unusedSimpArgs false
set_option linter.unusedVariables false
/-- How much notes, a descriptor, a document are. -/
def ntW (x : MNote) : Nat := x.key.length + x.val.length + 2
def dsW (d : MDesc) : Nat := d.media.length + (d.notes.map ntW).sum + 2
def dcW (d : MDoc) : Nat := d.media.length + d.type.length + dsW d.config + (d.edges.map dsW).sum + dsW d.subject + (d.notes.map ntW).sum + 2
theorem sum_mem {α : Type} {g : α → Nat} : ∀ {l : List α} {x : α}, x ∈ l → g x ≤ (l.map g).sum
 | [], _, h => by cases h
 | y :: l, x, h => by
  rw [List.map_cons, List.sum_cons]
  rcases List.mem_cons.1 h with rfl | h
  ·omega
  ·have := sum_mem (g := g) h; omega
theorem sum_two {α : Type} {g : α → Nat} (hg : ∀ x, 2 ≤ g x) : ∀ l : List α, 2 * l.length ≤ (l.map g).sum
 | [] => by simp
 | y :: l => by
  have := sum_two hg l
  have := hg y
  rw [List.map_cons, List.sum_cons, List.length_cons]; omega
theorem nt_sm {l : List MNote} (h : (l.map ntW).sum ≤ 1048576) : NtSm l := by
 have h2 := sum_two (g := ntW) (fun x => by unfold ntW; omega) l
 refine ⟨by omega, fun x hx => ?_⟩
 have := sum_mem (g := ntW) hx
 have h3 : ntW x = x.key.length + x.val.length + 2 := rfl
 omega
theorem ds_sm {d : MDesc} (h : dsW d ≤ 1048576) : DsSm d := by
 unfold dsW at h
 exact ⟨by omega, nt_sm (by omega)⟩
theorem dc_sm {d : MDoc} (h : dcW d ≤ 1048576) : DcSm d := by
 unfold dcW at h
 have h2 := sum_two (g := dsW) (fun x => by unfold dsW; omega) d.edges
 refine ⟨by omega, by omega, ds_sm (by omega), ⟨by omega, fun x hx => ?_⟩, ds_sm (by omega), nt_sm (by omega)⟩
 have := sum_mem (g := dsW) hx
 exact ds_sm (by omega)
theorem dc_mb {d : MDoc} (h : dcW d ≤ 1048576) : MB d := by
 have h2 := dc_sm h
 obtain ⟨_, _, h3, ⟨h4, h5⟩, h6, h7⟩ := h2
 exact ⟨by have := h3.2.1; omega, by omega, fun x hx => by have := (h5 x hx).2.1; omega, by have := h6.2.1; omega, by have := h7.1; omega⟩
theorem flat_part {α : Type} {f : α → List Value} {sz : Nat} : ∀ {l : List α}, (∀ u ∈ l, (f u).length = sz) → ∀ {i : Nat} {u : α}, l[i]? = some u → ((l.flatMap f).drop (i * sz)).take sz = f u
 | [], _, i, u, h => by cases h
 | x :: l, hl, i, u, h => by
  have hx := hl x (by simp)
  rw [List.flatMap_cons]
  cases i with
  | zero =>
   injection h with h
   subst h
   rw [Nat.zero_mul, List.drop_zero, List.take_left' hx]
  | succ i =>
   rw [show (i + 1) * sz = (f x).length + i * sz by rw [hx, Nat.add_mul, Nat.one_mul, Nat.add_comm], ← List.drop_drop, List.drop_left]
   exact flat_part (fun u hu => hl u (by simp [hu])) (by simpa using h)
structure NTT (P : Program) (t : TypeId) (fs : Array Field) (f0 f1 : Field) : Prop where
 und : P.underlying t = some (.struct fs)
 size : P.cellsOf t = 2
 at_ : fs = #[f0, f1]
 off : [f0, f1].map (fun f => (f.offset, P.cellsOf f.type)) = [(0, 1), (1, 1)]
 typ : [f0, f1].map (fun f => P.underlying f.type) = [some .string, some .string]
structure DST (P : Program) (t tn ub : TypeId) (fs : Array Field) (f0 f1 f2 f3 : Field) : Prop where
 und : P.underlying t = some (.struct fs)
 size : P.cellsOf t = 35
 at_ : fs = #[f0, f1, f2, f3]
 off : [f0, f1, f2, f3].map (fun f => (f.offset, P.cellsOf f.type)) = [(0, 1), (1, 32), (33, 1), (34, 1)]
 typ : [f0, f1, f2, f3].map (fun f => P.underlying f.type) = [some .string, some (.array 32 ub), some (.int .i64), some (.slice tn)]
 byt : P.underlying ub = some (.int .u8)
 one : P.cellsOf ub = 1
structure DCT (P : Program) (t td tn : TypeId) (fs : Array Field) (f0 f1 f2 f3 f4 f5 f6 : Field) : Prop where
 und : P.underlying t = some (.struct fs)
 size : P.cellsOf t = 75
 at_ : fs = #[f0, f1, f2, f3, f4, f5, f6]
 off : [f0, f1, f2, f3, f4, f5, f6].map (fun f => (f.offset, P.cellsOf f.type)) = [(0, 1), (1, 1), (2, 35), (37, 1), (38, 35), (73, 1), (74, 1)]
 typ : [f0, f1, f3, f5, f6].map (fun f => P.underlying f.type) = [some .string, some .string, some (.slice td), some .bool, some (.slice tn)]
 cfg : f2.type = td ∧ f4.type = td
section
variable {H : Type} {enc : TypeId × Value → H} {P : Program} {W : World} {hd : Bool}
theorem two_xs {xs : List (DataW H × List MemPlace)} (h : xs.length = 2) : ∃ x0 x1, xs = [x0, x1] := by
 match xs, h with
 | [x0, x1], _ => exact ⟨_, _, rfl⟩
theorem four_xs {xs : List (DataW H × List MemPlace)} (h : xs.length = 4) : ∃ x0 x1 x2 x3, xs = [x0, x1, x2, x3] := by
 match xs, h with
 | [x0, x1, x2, x3], _ => exact ⟨_, _, _, _, rfl⟩
theorem seven_xs {xs : List (DataW H × List MemPlace)} (h : xs.length = 7) : ∃ x0 x1 x2 x3 x4 x5 x6, xs = [x0, x1, x2, x3, x4, x5, x6] := by
 match xs, h with
 | [x0, x1, x2, x3, x4, x5, x6], _ => exact ⟨_, _, _, _, _, _, _, rfl⟩
theorem nt_in {t : TypeId} {fs : Array Field} {f0 f1 : Field} (T : NTT P t fs f0 f1) {fuel : Nat} {cs : List Value} {x : DataW H × List MemPlace} (h : DataW.trod enc P W 0 (fun _ => true) hd fuel t cs = some x) :
  ∃ u : MNote, cs = ntL u ∧ ntW u ≤ Rows.uptoBulk x.1 := by
 obtain ⟨xs, n, rfl, hx, hlen, hxl, hg⟩ := DataW.trod_struct T.und h
 rw [T.at_] at hxl
 obtain ⟨x0, x1, rfl⟩ := two_xs hxl
 have ho := T.off
 have ht := T.typ
 simp only [List.map_cons, List.map_nil, List.cons.injEq, Prod.mk.injEq, and_true] at ho ht
 obtain ⟨⟨o0, z0⟩, ⟨o1, z1⟩⟩ := ho
 obtain ⟨u0, u1⟩ := ht
 have g0 := hg 0 f0 (by rw [T.at_]; rfl)
 have g1 := hg 1 f1 (by rw [T.at_]; rfl)
 rw [o0, z0] at g0
 rw [o1, z1] at g1
 obtain ⟨s, e0, b0⟩ := strs_in u0 g0
 obtain ⟨s', e1, b1⟩ := strs_in u1 g1
 rw [T.size] at hlen
 refine ⟨⟨s.data.toList, s'.data.toList⟩, ?_, ?_⟩
 ·rw [show cs = cs.drop 0 from rfl, cut_at cs 0 1, e0, cut_at cs (0 + 1) 1, e1, List.drop_of_length_le (by omega)]
  rfl
 ·rw [hx]
  simp only [List.map_cons, List.map_nil, Rows.uptoBulk, Rows.uptoBulkAll, ntW]
  have h0 : s.data.toList.length = s.size := str_len s
  have h1 : s'.data.toList.length = s'.size := str_len s'
  omega
theorem ds_in {t tn ub : TypeId} {fs fn : Array Field} {f0 f1 f2 f3 n0 n1 : Field} (T : DST P t tn ub fs f0 f1 f2 f3) (N : NTT P tn fn n0 n1) {fuel : Nat} {cs : List Value} {x : DataW H × List MemPlace} (h : DataW.trod enc P W 0 (fun _ => true) hd fuel t cs = some x) :
  ∃ d : MDesc, RdD W d cs ∧ cs.length = 35 ∧ dsW d ≤ Rows.uptoBulk x.1 := by
 obtain ⟨xs, n, rfl, hx, hlen, hxl, hg⟩ := DataW.trod_struct T.und h
 rw [T.at_] at hxl
 obtain ⟨x0, x1, x2, x3, rfl⟩ := four_xs hxl
 have ho := T.off
 have ht := T.typ
 simp only [List.map_cons, List.map_nil, List.cons.injEq, Prod.mk.injEq, and_true] at ho ht
 obtain ⟨⟨o0, z0⟩, ⟨o1, z1⟩, ⟨o2, z2⟩, ⟨o3, z3⟩⟩ := ho
 obtain ⟨u0, u1, u2, u3⟩ := ht
 have g0 := hg 0 f0 (by rw [T.at_]; rfl)
 have g1 := hg 1 f1 (by rw [T.at_]; rfl)
 have g2 := hg 2 f2 (by rw [T.at_]; rfl)
 have g3 := hg 3 f3 (by rw [T.at_]; rfl)
 rw [o0, z0] at g0
 obtain ⟨dg, e1, l1⟩ := arr_in u1 T.byt T.one z1 g1
 rw [o1, z1] at e1
 rw [o2, z2] at g2
 rw [o3, z3] at g3
 obtain ⟨s, e0, b0⟩ := strs_in u0 g0
 obtain ⟨z, e2, w2⟩ := ints_in u2 g2
 obtain ⟨A, nn, cn, l, e3, h1, h2, h3, h4, h5⟩ := slR_in (α := MNote) (f := ntL) (g := ntW) (p := fun _ => True) u3 N.size (by decide) (fun m cs x _ h => by
  obtain ⟨u, hu, hb⟩ := nt_in N h
  exact ⟨u, hu, rfl, trivial, hb⟩) g3
 rw [T.size] at hlen
 refine ⟨⟨s.data.toList, dg, z, l⟩, ⟨.slice A nn cn, l1, ⟨A, nn, cn, h1, h2.symm, rfl, h3⟩, ?_⟩, hlen, ?_⟩
 ·rw [show cs = cs.drop 0 from rfl, cut_at cs 0 1, e0, cut_at cs (0 + 1) 32, e1, cut_at cs (0 + 1 + 32) 1, e2, cut_at cs (0 + 1 + 32 + 1) 1, e3, List.drop_of_length_le (by omega)]
  simp [dsL, strv]
 ·rw [hx]
  simp only [List.map_cons, List.map_nil, Rows.uptoBulk, Rows.uptoBulkAll, dsW]
  have h0 : s.data.toList.length = s.size := str_len s
  omega
theorem dc_in {t td tn ub : TypeId} {fs fd fn : Array Field} {f0 f1 f2 f3 f4 f5 f6 d0 d1 d2 d3 n0 n1 : Field} (T : DCT P t td tn fs f0 f1 f2 f3 f4 f5 f6) (D : DST P td tn ub fd d0 d1 d2 d3) (N : NTT P tn fn n0 n1) {fuel : Nat} {cs : List Value} {x : DataW H × List MemPlace} (h : DataW.trod enc P W 0 (fun _ => true) hd fuel t cs = some x) :
  ∃ d : MDoc, RdDoc W d cs ∧ dcW d ≤ Rows.uptoBulk x.1 := by
 obtain ⟨xs, n, rfl, hx, hlen, hxl, hg⟩ := DataW.trod_struct T.und h
 rw [T.at_] at hxl
 obtain ⟨x0, x1, x2, x3, x4, x5, x6, rfl⟩ := seven_xs hxl
 have ho := T.off
 have ht := T.typ
 simp only [List.map_cons, List.map_nil, List.cons.injEq, Prod.mk.injEq, and_true] at ho ht
 obtain ⟨⟨o0, z0⟩, ⟨o1, z1⟩, ⟨o2, z2⟩, ⟨o3, z3⟩, ⟨o4, z4⟩, ⟨o5, z5⟩, ⟨o6, z6⟩⟩ := ho
 obtain ⟨u0, u1, u3, u5, u6⟩ := ht
 obtain ⟨t2, t4⟩ := T.cfg
 have g0 := hg 0 f0 (by rw [T.at_]; rfl)
 have g1 := hg 1 f1 (by rw [T.at_]; rfl)
 have g2 := hg 2 f2 (by rw [T.at_]; rfl)
 have g3 := hg 3 f3 (by rw [T.at_]; rfl)
 have g4 := hg 4 f4 (by rw [T.at_]; rfl)
 have g5 := hg 5 f5 (by rw [T.at_]; rfl)
 have g6 := hg 6 f6 (by rw [T.at_]; rfl)
 rw [o0, z0] at g0
 rw [o1, z1] at g1
 rw [o2, z2, t2] at g2
 rw [o3, z3] at g3
 rw [o4, z4, t4] at g4
 rw [o5, z5] at g5
 rw [o6, z6] at g6
 obtain ⟨s0, e0, b0⟩ := strs_in u0 g0
 obtain ⟨s1, e1, b1⟩ := strs_in u1 g1
 obtain ⟨c2, r2, l2, w2⟩ := ds_in D N g2
 obtain ⟨c4, r4, l4, w4⟩ := ds_in D N g4
 obtain ⟨b, e5⟩ := bools_in u5 g5
 obtain ⟨Ae, ne, ce, le, e3, h1, h2, h3, h4, h5⟩ := slR_in (α := MDesc × List Value) (f := (·.2)) (g := fun u => dsW u.1) (p := fun u => RdD W u.1 u.2) u3 D.size (by decide) (fun m cs x _ h => by
  obtain ⟨d, hr, hl, hw⟩ := ds_in D N h
  exact ⟨(d, cs), rfl, hl, hr, hw⟩) g3
 obtain ⟨An, nn, cn, ln, e6, k1, k2, k3, k4, k5⟩ := slR_in (α := MNote) (f := ntL) (g := ntW) (p := fun _ => True) u6 N.size (by decide) (fun m cs x _ h => by
  obtain ⟨u, hu, hb⟩ := nt_in N h
  exact ⟨u, hu, rfl, trivial, hb⟩) g6
 rw [T.size] at hlen
 refine ⟨⟨s0.data.toList, s1.data.toList, c2, le.map (·.1), c4, b, ln⟩, ⟨(cs.drop 2).take 35, .slice Ae ne ce, (cs.drop 38).take 35, .slice An nn cn, r2, ⟨Ae, ne, ce, _, h1, by rw [List.length_map, h2], rfl, h3, fun i d hi => ?_⟩, r4, ⟨An, nn, cn, k1, k2.symm, rfl, k3⟩, ?_⟩, ?_⟩
 ·rw [List.getElem?_map] at hi
  cases hu : le[i]? with
  | none => rw [hu] at hi; cases hi
  | some u =>
   rw [hu] at hi
   injection hi with hi
   subst hi
   rw [flat_part (fun u hu => (h4 u hu).1) hu]
   exact (h4 u (List.mem_of_getElem? hu)).2
 ·have e : cs = ((cs.drop 0).take 1) ++ (((cs.drop 1).take 1) ++ (((cs.drop 2).take 35) ++ (((cs.drop 37).take 1) ++ (((cs.drop 38).take 35) ++ (((cs.drop 73).take 1) ++ ((cs.drop 74).take 1)))))) := by
   have q : (cs.drop 74).take 1 = cs.drop 74 := by rw [List.take_of_length_le (by rw [List.length_drop]; omega)]
   rw [q, ← cut_at cs 73 1, ← cut_at cs 38 35, ← cut_at cs 37 1, ← cut_at cs 2 35, ← cut_at cs 1 1, ← cut_at cs 0 1]
   rfl
  rw [e0, e1, e3, e5, e6] at e
  simpa [docL, strv] using e
 ·rw [hx]
  simp only [List.map_cons, List.map_nil, Rows.uptoBulk, Rows.uptoBulkAll, dcW]
  have h0 : s0.data.toList.length = s0.size := str_len s0
  have h1' : s1.data.toList.length = s1.size := str_len s1
  have h6 : (le.map (fun u => dsW u.1)).sum = ((le.map (·.1)).map dsW).sum := by rw [List.map_map]; rfl
  omega
theorem mdoc_in {t td tn ub : TypeId} {fs fd fn : Array Field} {f0 f1 f2 f3 f4 f5 f6 d0 d1 d2 d3 n0 n1 : Field} (T : DCT P t td tn fs f0 f1 f2 f3 f4 f5 f6) (D : DST P td tn ub fd d0 d1 d2 d3) (N : NTT P tn fn n0 n1) {r : Reach} {b0 : Nat} {v : Value} {d : DataW H} {ps : List MemPlace} (hv : Value.okWide P W r b0 t v) (h : DataW.Trod enc P W 0 (fun _ => true) hd t v d ps) :
  ∃ (q : MDoc) (cs : List Value), v = .agg cs.toArray ∧ RdDoc W q cs ∧ dcW q ≤ Rows.uptoBulk d := by
 obtain ⟨cs, rfl, hsz⟩ := okWide_struct T.und hv
 obtain ⟨fuel, hf⟩ := h
 obtain ⟨q, h1, h2⟩ := dc_in T D N (cs := cs.toList) (x := (d, ps)) hf
 exact ⟨q, cs.toList, by simp, h1, h2⟩
end
end Go.Proofs.YtlhicfpmlncomaaGreatDoor

namespace Go.Proofs.YtlhicfpmlncomaaGreatDoor
open Go.RowKit
set_option linter.unusedSimpArgs false
set_option linter.unusedVariables false
/-- The fields of a note. -/
structure NoteT (P : Program) (t : TypeId) (f0 f1 : Field) : Prop where
 und : P.underlying t = some (.struct #[f0, f1])
 nam : [f0, f1].all (fun f => f.name != "_") = true
 off : [f0, f1].map (·.offset) = [0, 1]
 typ : [f0, f1].map (fun f => P.underlying f.type) = [some .string, some .string]
 stood : P.stoodInHeld t = false
 grd : P.eqGuardType P.depth t = false
section
variable {P : Program} {o : Oper} {a : Act} {w : World}
theorem run_eqNote {t : TypeId} {f0 f1 : Field} (T : NoteT P t f0 f1) (x : MNote) (k : Nat) (w : World) :
  (Op.equalIn (k + 3) t (.agg (ntL x).toArray) (.agg (ntL x).toArray)).run P w = .ok true w := by
 have hf : P.fieldsOf t = #[f0, f1] := by unfold Program.fieldsOf; rw [T.und]
 have ho := T.off
 have ht := T.typ
 have hn := T.nam
 simp only [List.map_cons, List.map_nil, List.cons.injEq, and_true] at ho ht
 simp only [List.all_cons, List.all_nil, Bool.and_true, Bool.and_eq_true, bne_iff_ne, ne_eq] at hn
 obtain ⟨o0, o1⟩ := ho
 obtain ⟨t0, t1⟩ := ht
 obtain ⟨n0, n1⟩ := hn
 rw [run_equalIn_struct w (k + 2) t _ _ (by rw [hf]; exact T.und) T.stood, hf]
 have p1 : ∀ (f : Field) (v : Value), P.underlying f.type = some .string → (ntL x)[f.offset]? = some v → (Go.part f.type (ntL x).toArray f.offset).run P w = .ok v w := fun f v hu hv => by
  have hagg : (isAgg f.type).run P w = .ok false w := by rw [run_isAgg hu w]; rfl
  simp [Go.part, hagg, hv]
 have e0 : (ntL x)[f0.offset]? = some (.string ⟨x.key.toArray⟩) := by rw [o0]; rfl
 have e1 : (ntL x)[f1.offset]? = some (.string ⟨x.val.toArray⟩) := by rw [o1]; rfl
 have q0 : (Op.equalIn (k + 2) f0.type (.string ⟨x.key.toArray⟩) (.string ⟨x.key.toArray⟩)).run P w = .ok ((⟨x.key.toArray⟩ : ByteArray).toList == (⟨x.key.toArray⟩ : ByteArray).toList) w := run_equalIn_string w (k + 1) _ _ _ t0
 have q1 : (Op.equalIn (k + 2) f1.type (.string ⟨x.val.toArray⟩) (.string ⟨x.val.toArray⟩)).run P w = .ok ((⟨x.val.toArray⟩ : ByteArray).toList == (⟨x.val.toArray⟩ : ByteArray).toList) w := run_equalIn_string w (k + 1) _ _ _ t1
 rw [beq_self_eq_true] at q0 q1
 have x0 := p1 f0 _ t0 e0
 have x1 := p1 f1 _ t1 e1
 simp only [Op.eqFields, n0, n1, not_false_eq_true, if_true, Sem.run_bind, x0, q0, x1, q1, Result.andThen_ok, ne_eq, Bool.not_true, Bool.false_eq_true, if_false]
 simp
theorem yi_neN {S : World → Prop} {ops : Array Oper} (hw : Region.wanted o (yielded ops a.tmps) = true) {t : TypeId} {f0 f1 : Field} (T : NoteT P t f0 f1) {x : MNote}
  {p q : Operand} {ty : TypeId} (ho : o.op = .binOp .neq t p q ty) (hp : a.eval p = .agg (ntL x).toArray) (hq : a.eval q = .agg (ntL x).toArray) : YieldsIf P ops S o (.bool false) a := by
 refine yi_run hw fun w _ => ?_
 have h1 := run_eqGuard_agg (P := P) w .neq t p q (ntL x).toArray (ntL x).toArray T.grd
 have h2 := run_neq_struct (P := P) w t (ntL x).toArray (ntL x).toArray
 have h3 := run_eqNote T x 9997 w
 unfold execOp
 simp only [ho, hp, hq, Sem.run_bind, h1, h2, h3, Result.andThen_ok, Sem.run_pure]
 rfl
end
theorem NT8 : ∃ f0 f1, NoteT Tryz.prog 149 f0 f1 := ⟨_, _, Tryz.underlying149, by kernel_rfl, by kernel_rfl, by kernel_rfl, by kernel_rfl, by kernel_rfl⟩
set_option maxRecDepth 20000 in
set_option maxHeartbeats 3200000 in
theorem sameNotes_any (l : List MNote) (u v : Value) (w : World) (hbd : l.length ≤ 1048576) (h1 : RdN w l u) (h2 : RdN w l v) :
  Calls Tryz.prog 35 #[u, v] w fun e w' => e = .returned (.bool true) ∧ Below w.heap.size w w' := by
 obtain ⟨A1, n, c1, _, hn, rfl, hr1⟩ := h1
 obtain ⟨A2, n2, c2, _, hn2, rfl, hr2⟩ := h2
 obtain rfl : n = n2 := by omega
 obtain ⟨f0, f1, hNT'⟩ := NT8
 have hNT := box hNT'
 clear hNT' hn2
 replace hn := box hn
 replace hbd : n ≤ 1048576 := by rw [hn.out]; exact hbd
 have hF0 := Fr.nil w
 go_enter Tryz.func35, Tryz.ntmps35
 go_wp2_with fail
 go_loopg [5] n (fun g iv wr => ∃ i : Nat, i ≤ n ∧ Box (g = n - i) ∧ iv = .int .i64 (i : Int) ∧ Fr [] w wr [])
 case atStart => exact ⟨0, by omega, box rfl, rfl, hF0⟩
 case round =>
  clear hF0
  obtain ⟨i, hi, hgi, rfl, hF⟩ := hrel
  have hkk : Box (_ = n - i) := hgi
  clear hgi
  by_cases hlt : i < n
  ·obtain ⟨x, hx⟩ : ∃ x, l[i]? = some x := ⟨l[i]'(by rw [← hn.out]; exact hlt), by simp⟩
   have hxc := box (ntsL_at hx)
   clear hx
   go_upto_region 6 with fail
   have hFd := hF.drew
   refine wp_region_held (S := fun w' => Rd w' (· < w.heap.size) A1 2 n (ntsL l) ∧ Rd w' (· < w.heap.size) A2 2 n (ntsL l)) (by kernel_rfl) ?_
   change wpAnyH _ _ _ _ _ _ _ _ (World.drew _)
   refine tkp 0 ⟨hr1.below hFd.below, hr2.below hFd.below⟩ ?_
   (try simp only [Act.put, List.setIfInBounds_toArray, List.set_cons_zero, List.set_cons_succ])
   refine tkp 1 ⟨hr1.below hFd.below, hr2.below hFd.below⟩ ?_
   (try simp only [Act.put, List.setIfInBounds_toArray, List.set_cons_zero, List.set_cons_succ])
   refine tky 2 (y := yi_ix (by with_unfolding_all rfl) T_rnotes (fun h => hr1.some_ h) (k := i) (by with_unfolding_all exact ⟨_, _, _, _, rfl, rfl, rfl⟩) rfl (by omega)) (s := ⟨hr1.below hFd.below, hr2.below hFd.below⟩) (h := ?_)
   (try simp only [Act.put, List.setIfInBounds_toArray, List.set_cons_zero, List.set_cons_succ])
   refine tky 3 (y := yi_ldA (by with_unfolding_all rfl) (fun _ h => h.1) Tryz.underlying149 rfl (by with_unfolding_all exact ⟨_, rfl, rfl⟩) (ds := ntL x) (by kernel_rfl) hxc.out) (s := ⟨hr1.below hFd.below, hr2.below hFd.below⟩) (h := ?_)
   (try simp only [Act.put, List.setIfInBounds_toArray, List.set_cons_zero, List.set_cons_succ])
   refine tkp 4 ⟨hr1.below hFd.below, hr2.below hFd.below⟩ ?_
   (try simp only [Act.put, List.setIfInBounds_toArray, List.set_cons_zero, List.set_cons_succ])
   refine tkp 5 ⟨hr1.below hFd.below, hr2.below hFd.below⟩ ?_
   (try simp only [Act.put, List.setIfInBounds_toArray, List.set_cons_zero, List.set_cons_succ])
   refine tky 6 (y := yi_ix (by with_unfolding_all rfl) T_rnotes (fun h => hr2.some_ h) (k := i) (by with_unfolding_all exact ⟨_, _, _, _, rfl, rfl, rfl⟩) rfl (by omega)) (s := ⟨hr1.below hFd.below, hr2.below hFd.below⟩) (h := ?_)
   (try simp only [Act.put, List.setIfInBounds_toArray, List.set_cons_zero, List.set_cons_succ])
   refine tky 7 (y := yi_ldA (by with_unfolding_all rfl) (fun _ h => h.2) Tryz.underlying149 rfl (by with_unfolding_all exact ⟨_, rfl, rfl⟩) (ds := ntL x) (by kernel_rfl) hxc.out) (s := ⟨hr1.below hFd.below, hr2.below hFd.below⟩) (h := ?_)
   (try simp only [Act.put, List.setIfInBounds_toArray, List.set_cons_zero, List.set_cons_succ])
   refine tky 8 (y := yi_neN (by with_unfolding_all rfl) hNT.out (x := x) (by with_unfolding_all rfl) (by with_unfolding_all rfl) (by with_unfolding_all rfl)) (s := ⟨hr1.below hFd.below, hr2.below hFd.below⟩) (h := ?_)
   (try simp only [Act.put, List.setIfInBounds_toArray, List.set_cons_zero, List.set_cons_succ])
   refine wpAnyH_done (by kernel_rfl) ?_ _
   go_wp2_with fail
   go_roundg (n - (i + 1))
   case rel => exact ⟨i + 1, by omega, box rfl, by go_num, hFd⟩
   case measure => have := hkk.out; omega
  ·go_wp2_with fail
   go_ret
   exact ⟨rfl, hF.below⟩
end Go.Proofs.YtlhicfpmlncomaaGreatDoor

namespace Go.Proofs.YtlhicfpmlncomaaGreatDoor
open Go.RowKit
set_option linter.unusedSimpArgs false
set_option linter.unusedVariables false
set_option maxRecDepth 20000 in
set_option maxHeartbeats 1600000 in
theorem sameDesc_any (d : MDesc) (ca cb : List Value) (w : World) (hbd : d.notes.length ≤ 1048576) (h1 : RdD w d ca) (h2 : RdD w d cb) :
  Calls Tryz.prog 34 #[.agg ca.toArray, .agg cb.toArray] w fun e w' => e = .returned (.bool true) ∧ Below w.heap.size w w' := by
 have hF0 := Fr.nil w
 obtain ⟨m, dg, z, nts⟩ := d
 obtain ⟨_, hd', hN1, rfl⟩ := h1
 obtain ⟨_, _, hN2, rfl⟩ := h2
 have hsn := box (fun (w' : World) (hb : Below w.heap.size w w') => sameNotes_any nts _ _ w' hbd (hN1.on hb) (hN2.on hb))
 obtain ⟨A1, n1, c1, _, hq1, rfl, _⟩ := hN1
 obtain ⟨A2, n2, c2, _, hq2, rfl, _⟩ := hN2
 clear hq1 hq2
 simp only [] at hd' hsn ⊢
 have hd := box hd'
 have heq : ∀ w, (Op.equalIn 10000 24 (.agg (dg.map bv).toArray) (.agg (dg.map bv).toArray)).run Tryz.prog w = .ok true w := fun w => by
  have h := run_eqBytes (P := Tryz.prog) Tryz.underlying24 Tryz.underlying5 (by kernel_rfl) dg dg hd' hd' 9998 w
  rw [beq_self_eq_true] at h
  exact h
 clear hd' hbd
 go_enter Tryz.func34, Tryz.ntmps34
 go_wp2_with (first | ((with_reducible refine lst (by with_unfolding_all rfl) (wp_fbox hF0 (cs := (dsL m dg z (.slice A1 n1 c1))) rfl (by with_unfolding_all rfl) (by with_unfolding_all rfl) ?_)); intro w1 g1 hF1 hz1) | ((with_reducible refine lst (by with_unfolding_all rfl) (wp_fbox hF1 (cs := (dsL m dg z (.slice A2 n2 c2))) rfl (by with_unfolding_all rfl) (by with_unfolding_all rfl) ?_)); intro w2 g2 hF2 hz2) | (with_reducible refine lst (by with_unfolding_all rfl) (wp_fld1 hF2 Tryz.underlying9 rfl (by with_unfolding_all exact ⟨_, rfl, rfl⟩) dsL_m0 ?_)) | (with_reducible refine lst (by with_unfolding_all rfl) (wp_fldA1 hF2 Tryz.underlying24 rfl (by with_unfolding_all exact ⟨_, rfl, rfl⟩) (ds := (dg.map bv)) (by rw [List.length_map, hd.out]; kernel_rfl) (by rw [List.length_map, hd.out]; exact dsL_dig hd.out) ?_)) | (with_reducible refine lst (by with_unfolding_all rfl) (wp_fld1 hF2 Tryz.underlying3 rfl (by with_unfolding_all exact ⟨_, rfl, rfl⟩) (dsL_size hd.out) ?_)) | (with_reducible refine lst (by with_unfolding_all rfl) (wp_fld1 hF2 Tryz.underlying35 rfl (by with_unfolding_all exact ⟨_, rfl, rfl⟩) (dsL_notes hd.out) ?_)) | (with_reducible refine lst (by with_unfolding_all rfl) (wp_fld0 hF2 Tryz.underlying9 rfl (by with_unfolding_all exact ⟨_, rfl, rfl⟩) dsL_m0 ?_)) | (with_reducible refine lst (by with_unfolding_all rfl) (wp_fldA0 hF2 Tryz.underlying24 rfl (by with_unfolding_all exact ⟨_, rfl, rfl⟩) (ds := (dg.map bv)) (by rw [List.length_map, hd.out]; kernel_rfl) (by rw [List.length_map, hd.out]; exact dsL_dig hd.out) ?_)) | (with_reducible refine lst (by with_unfolding_all rfl) (wp_fld0 hF2 Tryz.underlying3 rfl (by with_unfolding_all exact ⟨_, rfl, rfl⟩) (dsL_size hd.out) ?_)) | (with_reducible refine lst (by with_unfolding_all rfl) (wp_fld0 hF2 Tryz.underlying35 rfl (by with_unfolding_all exact ⟨_, rfl, rfl⟩) (dsL_notes hd.out) ?_)))
 refine (hsn.out _ hF2.below).mono ?_
 rintro e w3 ⟨rfl, hb3⟩
 have hF3 := hF2.call hb3
 go_wp2_with fail
 go_ret
 exact ⟨by simp, hF3.below⟩
set_option maxRecDepth 20000 in
set_option maxHeartbeats 3200000 in
theorem sameDescs_any (l : List MDesc) (u v : Value) (w : World) (hbd : l.length ≤ 1048576) (hbs : ∀ x ∈ l, x.notes.length ≤ 1048576) (h1 : RdE w l u) (h2 : RdE w l v) :
  Calls Tryz.prog 25 #[u, v] w fun e w' => e = .returned (.bool true) ∧ Below w.heap.size w w' := by
 obtain ⟨A1, n, c1, xs, _, hn, rfl, hr1, hx1⟩ := h1
 obtain ⟨A2, n2, c2, ys, _, hn2, rfl, hr2, hx2⟩ := h2
 obtain rfl : n = n2 := by omega
 clear hn2
 replace hn := box hn
 replace hx1 := box hx1
 replace hx2 := box hx2
 replace hbs := box hbs
 replace hbd : n ≤ 1048576 := by rw [hn.out]; exact hbd
 have hF0 := Fr.nil w
 go_enter Tryz.func25, Tryz.ntmps25
 go_wp2_with fail
 go_loopg [5] n (fun g iv wr => ∃ i : Nat, i ≤ n ∧ Box (g = n - i) ∧ iv = .int .i64 (i : Int) ∧ Fr [] w wr [])
 case atStart => exact ⟨0, by omega, box rfl, rfl, hF0⟩
 case round =>
  clear hF0
  obtain ⟨i, hi, hgi, rfl, hF⟩ := hrel
  have hkk : Box (_ = n - i) := hgi
  clear hgi
  by_cases hlt : i < n
  ·obtain ⟨x, hx⟩ : ∃ x, l[i]? = some x := ⟨l[i]'(by rw [← hn.out]; exact hlt), by simp⟩
   obtain ⟨ca, hca'⟩ : ∃ ca, ca = (xs.drop (i * 35)).take 35 := ⟨_, rfl⟩
   obtain ⟨cb, hcb'⟩ : ∃ cb, cb = (ys.drop (i * 35)).take 35 := ⟨_, rfl⟩
   have hda := hx1.out i x hx
   have hdb := hx2.out i x hx
   rw [← hca'] at hda
   rw [← hcb'] at hdb
   have hcal := box hda.len
   have hcbl := box hdb.len
   have hsd := box (fun (w' : World) (hb : Below w.heap.size w w') => sameDesc_any x ca cb w' (hbs.out x (List.mem_of_getElem? hx)) (hda.on hb) (hdb.on hb))
   have hca := box hca'.symm
   have hcb := box hcb'.symm
   clear hx hca' hcb' hda hdb
   go_upto_region 6 with fail
   have hFd := hF.drew
   refine wp_region_held (S := fun w' => Rd w' (· < w.heap.size) A1 35 n xs ∧ Rd w' (· < w.heap.size) A2 35 n ys) (by kernel_rfl) ?_
   change wpAnyH _ _ _ _ _ _ _ _ (World.drew _)
   refine tkp 0 ⟨hr1.below hFd.below, hr2.below hFd.below⟩ ?_
   (try simp only [Act.put, List.setIfInBounds_toArray, List.set_cons_zero, List.set_cons_succ])
   refine tkp 1 ⟨hr1.below hFd.below, hr2.below hFd.below⟩ ?_
   (try simp only [Act.put, List.setIfInBounds_toArray, List.set_cons_zero, List.set_cons_succ])
   refine tky 2 (y := yi_ix (by with_unfolding_all rfl) T_rdescs (fun h => hr1.some_ h) (k := i) (by with_unfolding_all exact ⟨_, _, _, _, rfl, rfl, rfl⟩) rfl (by omega)) (s := ⟨hr1.below hFd.below, hr2.below hFd.below⟩) (h := ?_)
   (try simp only [Act.put, List.setIfInBounds_toArray, List.set_cons_zero, List.set_cons_succ])
   refine tky 3 (y := yi_ldA (by with_unfolding_all rfl) (fun _ h => h.1) Tryz.underlying37 rfl (by with_unfolding_all exact ⟨_, rfl, rfl⟩) (ds := ca) (by rw [hcal.out]; kernel_rfl) (by rw [hcal.out]; exact hca.out)) (s := ⟨hr1.below hFd.below, hr2.below hFd.below⟩) (h := ?_)
   (try simp only [Act.put, List.setIfInBounds_toArray, List.set_cons_zero, List.set_cons_succ])
   refine tkp 4 ⟨hr1.below hFd.below, hr2.below hFd.below⟩ ?_
   (try simp only [Act.put, List.setIfInBounds_toArray, List.set_cons_zero, List.set_cons_succ])
   refine tkp 5 ⟨hr1.below hFd.below, hr2.below hFd.below⟩ ?_
   (try simp only [Act.put, List.setIfInBounds_toArray, List.set_cons_zero, List.set_cons_succ])
   refine tky 6 (y := yi_ix (by with_unfolding_all rfl) T_rdescs (fun h => hr2.some_ h) (k := i) (by with_unfolding_all exact ⟨_, _, _, _, rfl, rfl, rfl⟩) rfl (by omega)) (s := ⟨hr1.below hFd.below, hr2.below hFd.below⟩) (h := ?_)
   (try simp only [Act.put, List.setIfInBounds_toArray, List.set_cons_zero, List.set_cons_succ])
   refine tky 7 (y := yi_ldA (by with_unfolding_all rfl) (fun _ h => h.2) Tryz.underlying37 rfl (by with_unfolding_all exact ⟨_, rfl, rfl⟩) (ds := cb) (by rw [hcbl.out]; kernel_rfl) (by rw [hcbl.out]; exact hcb.out)) (s := ⟨hr1.below hFd.below, hr2.below hFd.below⟩) (h := ?_)
   (try simp only [Act.put, List.setIfInBounds_toArray, List.set_cons_zero, List.set_cons_succ])
   refine rdy1 8 (fun K hK => ?_)
   refine stp (by with_unfolding_all rfl) (wp_call Tryz.func34 rfl (by with_unfolding_all rfl) (by with_unfolding_all rfl) (by with_unfolding_all rfl) (hsd.out _ hFd.below) ?_)
   rintro e w41 ⟨rfl, hb41⟩
   refine ⟨_, rfl, ?_⟩
   have hF41 := hFd.call hb41
   refine hK.out _ _ (⟨hr1.below hF41.below, hr2.below hF41.below⟩) (fun _ => ?_)
   clear hK K
   (try simp only [Act.put, List.setIfInBounds_toArray, List.set_cons_zero, List.set_cons_succ])
   refine tkp 9 ⟨hr1.below hF41.below, hr2.below hF41.below⟩ ?_
   (try simp only [Act.put, List.setIfInBounds_toArray, List.set_cons_zero, List.set_cons_succ])
   refine wpAnyH_done (by kernel_rfl) ?_ _
   go_wp2_with fail
   go_roundg (n - (i + 1))
   case rel => exact ⟨i + 1, by omega, box rfl, by go_num, hF41⟩
   case measure => have := hkk.out; omega
  ·go_wp2_with fail
   go_ret
   exact ⟨rfl, hF.below⟩
set_option maxRecDepth 20000 in
set_option maxHeartbeats 1600000 in
theorem msame_any (d : MDoc) (ca cb : List Value) (w : World) (hB : MB d) (h1 : RdDoc w d ca) (h2 : RdDoc w d cb) :
  Calls Tryz.prog 14 #[.agg ca.toArray, .agg cb.toArray] w fun e w' => e = .returned (.bool true) ∧ Below w.heap.size w w' := by
 have hF0 := Fr.nil w
 obtain ⟨hB1, hB2, hB3, hB4, hB5⟩ := hB
 obtain ⟨cf1, eg1, sj1, nt1, hC1, hE1, hS1, hN1, rfl⟩ := h1
 obtain ⟨cf2, eg2, sj2, nt2, hC2, hE2, hS2, hN2, rfl⟩ := h2
 have hcl1 := box hC1.len
 have hsl1 := box hS1.len
 have hcl2 := box hC2.len
 have hsl2 := box hS2.len
 have sC := box (fun (w' : World) (hb : Below w.heap.size w w') => sameDesc_any d.config cf1 cf2 w' hB1 (hC1.on hb) (hC2.on hb))
 have sE := box (fun (w' : World) (hb : Below w.heap.size w w') => sameDescs_any d.edges eg1 eg2 w' hB2 hB3 (hE1.on hb) (hE2.on hb))
 have sS := box (fun (w' : World) (hb : Below w.heap.size w w') => sameDesc_any d.subject sj1 sj2 w' hB4 (hS1.on hb) (hS2.on hb))
 have sN := box (fun (w' : World) (hb : Below w.heap.size w w') => sameNotes_any d.notes nt1 nt2 w' hB5 (hN1.on hb) (hN2.on hb))
 obtain ⟨Ae1, ne1, ce1, _, _, hq1, rfl, _, _⟩ := hE1
 obtain ⟨Ae2, ne2, ce2, _, _, hq2, rfl, _, _⟩ := hE2
 obtain ⟨An1, nn1, cn1, _, hq3, rfl, _⟩ := hN1
 obtain ⟨An2, nn2, cn2, _, hq4, rfl, _⟩ := hN2
 clear hq1 hq2 hq3 hq4
 clear hC1 hC2 hS1 hS2 hB1 hB2 hB3 hB4 hB5
 go_enter Tryz.func14, Tryz.ntmps14
 go_wp2_with (first | ((with_reducible refine lst (by with_unfolding_all rfl) (wp_fbox hF0 (cs := (docL d.media d.type cf1 (.slice Ae1 ne1 ce1) sj1 d.has (.slice An1 nn1 cn1))) rfl (by with_unfolding_all rfl) (by with_unfolding_all rfl) ?_)); intro w1 g1 hF1 hz1) | ((with_reducible refine lst (by with_unfolding_all rfl) (wp_fbox hF1 (cs := (docL d.media d.type cf2 (.slice Ae2 ne2 ce2) sj2 d.has (.slice An2 nn2 cn2))) rfl (by with_unfolding_all rfl) (by with_unfolding_all rfl) ?_)); intro w2 g2 hF2 hz2) | (with_reducible refine lst (by with_unfolding_all rfl) (wp_fld1 hF2 Tryz.underlying9 rfl (by with_unfolding_all exact ⟨_, rfl, rfl⟩) docL_m0 ?_)) | (with_reducible refine lst (by with_unfolding_all rfl) (wp_fld1 hF2 Tryz.underlying9 rfl (by with_unfolding_all exact ⟨_, rfl, rfl⟩) docL_t0 ?_)) | (with_reducible refine lst (by with_unfolding_all rfl) (wp_fldA1 hF2 Tryz.underlying37 rfl (by with_unfolding_all exact ⟨_, rfl, rfl⟩) (ds := cf1) (by rw [hcl1.out]; kernel_rfl) (by rw [hcl1.out]; exact docL_cf hcl1.out) ?_)) | (with_reducible refine lst (by with_unfolding_all rfl) (wp_fld1 hF2 Tryz.underlying38 rfl (by with_unfolding_all exact ⟨_, rfl, rfl⟩) (docL_eg hcl1.out) ?_)) | (with_reducible refine lst (by with_unfolding_all rfl) (wp_fldA1 hF2 Tryz.underlying37 rfl (by with_unfolding_all exact ⟨_, rfl, rfl⟩) (ds := sj1) (by rw [hsl1.out]; kernel_rfl) (by rw [hsl1.out]; exact docL_sj hcl1.out hsl1.out) ?_)) | (with_reducible refine lst (by with_unfolding_all rfl) (wp_fld1 hF2 Tryz.underlying4 rfl (by with_unfolding_all exact ⟨_, rfl, rfl⟩) (docL_has hcl1.out hsl1.out) ?_)) | (with_reducible refine lst (by with_unfolding_all rfl) (wp_fld1 hF2 Tryz.underlying35 rfl (by with_unfolding_all exact ⟨_, rfl, rfl⟩) (docL_nt hcl1.out hsl1.out) ?_)) | (with_reducible refine lst (by with_unfolding_all rfl) (wp_fld0 hF2 Tryz.underlying9 rfl (by with_unfolding_all exact ⟨_, rfl, rfl⟩) docL_m0 ?_)) | (with_reducible refine lst (by with_unfolding_all rfl) (wp_fld0 hF2 Tryz.underlying9 rfl (by with_unfolding_all exact ⟨_, rfl, rfl⟩) docL_t0 ?_)) | (with_reducible refine lst (by with_unfolding_all rfl) (wp_fldA0 hF2 Tryz.underlying37 rfl (by with_unfolding_all exact ⟨_, rfl, rfl⟩) (ds := cf2) (by rw [hcl2.out]; kernel_rfl) (by rw [hcl2.out]; exact docL_cf hcl2.out) ?_)) | (with_reducible refine lst (by with_unfolding_all rfl) (wp_fld0 hF2 Tryz.underlying38 rfl (by with_unfolding_all exact ⟨_, rfl, rfl⟩) (docL_eg hcl2.out) ?_)) | (with_reducible refine lst (by with_unfolding_all rfl) (wp_fldA0 hF2 Tryz.underlying37 rfl (by with_unfolding_all exact ⟨_, rfl, rfl⟩) (ds := sj2) (by rw [hsl2.out]; kernel_rfl) (by rw [hsl2.out]; exact docL_sj hcl2.out hsl2.out) ?_)) | (with_reducible refine lst (by with_unfolding_all rfl) (wp_fld0 hF2 Tryz.underlying4 rfl (by with_unfolding_all exact ⟨_, rfl, rfl⟩) (docL_has hcl2.out hsl2.out) ?_)) | (with_reducible refine lst (by with_unfolding_all rfl) (wp_fld0 hF2 Tryz.underlying35 rfl (by with_unfolding_all exact ⟨_, rfl, rfl⟩) (docL_nt hcl2.out hsl2.out) ?_)))
 refine (sC.out _ hF2.below).mono ?_
 rintro e w3 ⟨rfl, hb3⟩
 have hF3 := hF2.call hb3
 go_wp2_with (first | (with_reducible refine lst (by with_unfolding_all rfl) (wp_fld1 hF3 Tryz.underlying9 rfl (by with_unfolding_all exact ⟨_, rfl, rfl⟩) docL_m0 ?_)) | (with_reducible refine lst (by with_unfolding_all rfl) (wp_fld1 hF3 Tryz.underlying9 rfl (by with_unfolding_all exact ⟨_, rfl, rfl⟩) docL_t0 ?_)) | (with_reducible refine lst (by with_unfolding_all rfl) (wp_fldA1 hF3 Tryz.underlying37 rfl (by with_unfolding_all exact ⟨_, rfl, rfl⟩) (ds := cf1) (by rw [hcl1.out]; kernel_rfl) (by rw [hcl1.out]; exact docL_cf hcl1.out) ?_)) | (with_reducible refine lst (by with_unfolding_all rfl) (wp_fld1 hF3 Tryz.underlying38 rfl (by with_unfolding_all exact ⟨_, rfl, rfl⟩) (docL_eg hcl1.out) ?_)) | (with_reducible refine lst (by with_unfolding_all rfl) (wp_fldA1 hF3 Tryz.underlying37 rfl (by with_unfolding_all exact ⟨_, rfl, rfl⟩) (ds := sj1) (by rw [hsl1.out]; kernel_rfl) (by rw [hsl1.out]; exact docL_sj hcl1.out hsl1.out) ?_)) | (with_reducible refine lst (by with_unfolding_all rfl) (wp_fld1 hF3 Tryz.underlying4 rfl (by with_unfolding_all exact ⟨_, rfl, rfl⟩) (docL_has hcl1.out hsl1.out) ?_)) | (with_reducible refine lst (by with_unfolding_all rfl) (wp_fld1 hF3 Tryz.underlying35 rfl (by with_unfolding_all exact ⟨_, rfl, rfl⟩) (docL_nt hcl1.out hsl1.out) ?_)) | (with_reducible refine lst (by with_unfolding_all rfl) (wp_fld0 hF3 Tryz.underlying9 rfl (by with_unfolding_all exact ⟨_, rfl, rfl⟩) docL_m0 ?_)) | (with_reducible refine lst (by with_unfolding_all rfl) (wp_fld0 hF3 Tryz.underlying9 rfl (by with_unfolding_all exact ⟨_, rfl, rfl⟩) docL_t0 ?_)) | (with_reducible refine lst (by with_unfolding_all rfl) (wp_fldA0 hF3 Tryz.underlying37 rfl (by with_unfolding_all exact ⟨_, rfl, rfl⟩) (ds := cf2) (by rw [hcl2.out]; kernel_rfl) (by rw [hcl2.out]; exact docL_cf hcl2.out) ?_)) | (with_reducible refine lst (by with_unfolding_all rfl) (wp_fld0 hF3 Tryz.underlying38 rfl (by with_unfolding_all exact ⟨_, rfl, rfl⟩) (docL_eg hcl2.out) ?_)) | (with_reducible refine lst (by with_unfolding_all rfl) (wp_fldA0 hF3 Tryz.underlying37 rfl (by with_unfolding_all exact ⟨_, rfl, rfl⟩) (ds := sj2) (by rw [hsl2.out]; kernel_rfl) (by rw [hsl2.out]; exact docL_sj hcl2.out hsl2.out) ?_)) | (with_reducible refine lst (by with_unfolding_all rfl) (wp_fld0 hF3 Tryz.underlying4 rfl (by with_unfolding_all exact ⟨_, rfl, rfl⟩) (docL_has hcl2.out hsl2.out) ?_)) | (with_reducible refine lst (by with_unfolding_all rfl) (wp_fld0 hF3 Tryz.underlying35 rfl (by with_unfolding_all exact ⟨_, rfl, rfl⟩) (docL_nt hcl2.out hsl2.out) ?_)))
 refine (sE.out _ hF3.below).mono ?_
 rintro e w4 ⟨rfl, hb4⟩
 have hF4 := hF3.call hb4
 go_wp2_with (first | (with_reducible refine lst (by with_unfolding_all rfl) (wp_fld1 hF4 Tryz.underlying9 rfl (by with_unfolding_all exact ⟨_, rfl, rfl⟩) docL_m0 ?_)) | (with_reducible refine lst (by with_unfolding_all rfl) (wp_fld1 hF4 Tryz.underlying9 rfl (by with_unfolding_all exact ⟨_, rfl, rfl⟩) docL_t0 ?_)) | (with_reducible refine lst (by with_unfolding_all rfl) (wp_fldA1 hF4 Tryz.underlying37 rfl (by with_unfolding_all exact ⟨_, rfl, rfl⟩) (ds := cf1) (by rw [hcl1.out]; kernel_rfl) (by rw [hcl1.out]; exact docL_cf hcl1.out) ?_)) | (with_reducible refine lst (by with_unfolding_all rfl) (wp_fld1 hF4 Tryz.underlying38 rfl (by with_unfolding_all exact ⟨_, rfl, rfl⟩) (docL_eg hcl1.out) ?_)) | (with_reducible refine lst (by with_unfolding_all rfl) (wp_fldA1 hF4 Tryz.underlying37 rfl (by with_unfolding_all exact ⟨_, rfl, rfl⟩) (ds := sj1) (by rw [hsl1.out]; kernel_rfl) (by rw [hsl1.out]; exact docL_sj hcl1.out hsl1.out) ?_)) | (with_reducible refine lst (by with_unfolding_all rfl) (wp_fld1 hF4 Tryz.underlying4 rfl (by with_unfolding_all exact ⟨_, rfl, rfl⟩) (docL_has hcl1.out hsl1.out) ?_)) | (with_reducible refine lst (by with_unfolding_all rfl) (wp_fld1 hF4 Tryz.underlying35 rfl (by with_unfolding_all exact ⟨_, rfl, rfl⟩) (docL_nt hcl1.out hsl1.out) ?_)) | (with_reducible refine lst (by with_unfolding_all rfl) (wp_fld0 hF4 Tryz.underlying9 rfl (by with_unfolding_all exact ⟨_, rfl, rfl⟩) docL_m0 ?_)) | (with_reducible refine lst (by with_unfolding_all rfl) (wp_fld0 hF4 Tryz.underlying9 rfl (by with_unfolding_all exact ⟨_, rfl, rfl⟩) docL_t0 ?_)) | (with_reducible refine lst (by with_unfolding_all rfl) (wp_fldA0 hF4 Tryz.underlying37 rfl (by with_unfolding_all exact ⟨_, rfl, rfl⟩) (ds := cf2) (by rw [hcl2.out]; kernel_rfl) (by rw [hcl2.out]; exact docL_cf hcl2.out) ?_)) | (with_reducible refine lst (by with_unfolding_all rfl) (wp_fld0 hF4 Tryz.underlying38 rfl (by with_unfolding_all exact ⟨_, rfl, rfl⟩) (docL_eg hcl2.out) ?_)) | (with_reducible refine lst (by with_unfolding_all rfl) (wp_fldA0 hF4 Tryz.underlying37 rfl (by with_unfolding_all exact ⟨_, rfl, rfl⟩) (ds := sj2) (by rw [hsl2.out]; kernel_rfl) (by rw [hsl2.out]; exact docL_sj hcl2.out hsl2.out) ?_)) | (with_reducible refine lst (by with_unfolding_all rfl) (wp_fld0 hF4 Tryz.underlying4 rfl (by with_unfolding_all exact ⟨_, rfl, rfl⟩) (docL_has hcl2.out hsl2.out) ?_)) | (with_reducible refine lst (by with_unfolding_all rfl) (wp_fld0 hF4 Tryz.underlying35 rfl (by with_unfolding_all exact ⟨_, rfl, rfl⟩) (docL_nt hcl2.out hsl2.out) ?_)))
 refine (sS.out _ hF4.below).mono ?_
 rintro e w5 ⟨rfl, hb5⟩
 have hF5 := hF4.call hb5
 go_wp2_with (first | (with_reducible refine lst (by with_unfolding_all rfl) (wp_fld1 hF5 Tryz.underlying9 rfl (by with_unfolding_all exact ⟨_, rfl, rfl⟩) docL_m0 ?_)) | (with_reducible refine lst (by with_unfolding_all rfl) (wp_fld1 hF5 Tryz.underlying9 rfl (by with_unfolding_all exact ⟨_, rfl, rfl⟩) docL_t0 ?_)) | (with_reducible refine lst (by with_unfolding_all rfl) (wp_fldA1 hF5 Tryz.underlying37 rfl (by with_unfolding_all exact ⟨_, rfl, rfl⟩) (ds := cf1) (by rw [hcl1.out]; kernel_rfl) (by rw [hcl1.out]; exact docL_cf hcl1.out) ?_)) | (with_reducible refine lst (by with_unfolding_all rfl) (wp_fld1 hF5 Tryz.underlying38 rfl (by with_unfolding_all exact ⟨_, rfl, rfl⟩) (docL_eg hcl1.out) ?_)) | (with_reducible refine lst (by with_unfolding_all rfl) (wp_fldA1 hF5 Tryz.underlying37 rfl (by with_unfolding_all exact ⟨_, rfl, rfl⟩) (ds := sj1) (by rw [hsl1.out]; kernel_rfl) (by rw [hsl1.out]; exact docL_sj hcl1.out hsl1.out) ?_)) | (with_reducible refine lst (by with_unfolding_all rfl) (wp_fld1 hF5 Tryz.underlying4 rfl (by with_unfolding_all exact ⟨_, rfl, rfl⟩) (docL_has hcl1.out hsl1.out) ?_)) | (with_reducible refine lst (by with_unfolding_all rfl) (wp_fld1 hF5 Tryz.underlying35 rfl (by with_unfolding_all exact ⟨_, rfl, rfl⟩) (docL_nt hcl1.out hsl1.out) ?_)) | (with_reducible refine lst (by with_unfolding_all rfl) (wp_fld0 hF5 Tryz.underlying9 rfl (by with_unfolding_all exact ⟨_, rfl, rfl⟩) docL_m0 ?_)) | (with_reducible refine lst (by with_unfolding_all rfl) (wp_fld0 hF5 Tryz.underlying9 rfl (by with_unfolding_all exact ⟨_, rfl, rfl⟩) docL_t0 ?_)) | (with_reducible refine lst (by with_unfolding_all rfl) (wp_fldA0 hF5 Tryz.underlying37 rfl (by with_unfolding_all exact ⟨_, rfl, rfl⟩) (ds := cf2) (by rw [hcl2.out]; kernel_rfl) (by rw [hcl2.out]; exact docL_cf hcl2.out) ?_)) | (with_reducible refine lst (by with_unfolding_all rfl) (wp_fld0 hF5 Tryz.underlying38 rfl (by with_unfolding_all exact ⟨_, rfl, rfl⟩) (docL_eg hcl2.out) ?_)) | (with_reducible refine lst (by with_unfolding_all rfl) (wp_fldA0 hF5 Tryz.underlying37 rfl (by with_unfolding_all exact ⟨_, rfl, rfl⟩) (ds := sj2) (by rw [hsl2.out]; kernel_rfl) (by rw [hsl2.out]; exact docL_sj hcl2.out hsl2.out) ?_)) | (with_reducible refine lst (by with_unfolding_all rfl) (wp_fld0 hF5 Tryz.underlying4 rfl (by with_unfolding_all exact ⟨_, rfl, rfl⟩) (docL_has hcl2.out hsl2.out) ?_)) | (with_reducible refine lst (by with_unfolding_all rfl) (wp_fld0 hF5 Tryz.underlying35 rfl (by with_unfolding_all exact ⟨_, rfl, rfl⟩) (docL_nt hcl2.out hsl2.out) ?_)))
 refine (sN.out _ hF5.below).mono ?_
 rintro e w6 ⟨rfl, hb6⟩
 have hF6 := hF5.call hb6
 go_wp2_with fail
 go_ret
 exact ⟨by simp, hF6.below⟩
end Go.Proofs.YtlhicfpmlncomaaGreatDoor

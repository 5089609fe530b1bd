/-
 Layer 8: the document's Tell, walked.
 Layer 8: a document that came in. No program is named here.
 Layer 8, plain law: how much is told of a right document. No program is named here.
 Layer 6: the program's Write within a frame; what is known of a value that was read.
 Layer 8: the program's Write, walked.
 A slice literal of one reckoned byte. No program is named here.
 Layer 6: the document's Decimal, walked.
 Layer 6: the document's quote, walked.
 Layer 6: the document's lay, walked.
 Layer 6: the document's Count, walked.
-/
import Derived.Test.YtlhicfpmlncomaaGreatDoorL19
import Derived.Test.YtlhicfpmlncomaaGreatDoorL03
import Derived.Test.YtlhicfpmlncomaaGreatDoorL20
import Derived.Test.YtlhicfpmlncomaaGreatDoorL18
import Derived.Test.YtlhicfpmlncomaaGreatDoorL14
import Derived.Test.YtlhicfpmlncomaaGreatDoorL21
import Derived.Test.YtlhicfpmlncomaaGreatDoorL02
import Derived.Test.YtlhicfpmlncomaaGreatDoorL17
import Derived.Test.YtlhicfpmlncomaaGreatDoorL15
import Derived.Test.YtlhicfpmlncomaaGreatDoorL16
set_option linter.unusedSimpArgs false
namespace Go.Proofs.YtlhicfpmlncomaaGreatDoor
open Go.RowKit
set_option linter.unusedSimpArgs false
set_option linter.unusedVariables false
theorem permTail {α : Type} (a b c : List α) : ((a ++ b) ++ c).Perm ((a ++ c) ++ b) := by
 rw [List.append_assoc, List.append_assoc]
 exact List.Perm.append_left _ List.perm_append_comm
/-- Members are told so far. -/
def Mid (w : World) (g1 g2 go b : Nat) (doc : List Value) (ms : List (List UInt8 × JV)) (wx : World) : Prop :=
 ∃ (nn : Nat) (A : Option Addr) (c : Nat) (B : Option Addr) (d : Nat) (ys : List Value) (TE : List Ent), nn = ms.length ∧ nn ≤ b ∧ nn ≤ c ∧ nn ≤ d ∧ VTL (ms.map (fun x => x.2)) ys TE ∧
  Fr [] w wx (.own w.heap.size 9 1 (.slice A nn c) nn ((ms.map (fun x => x.1)).map strv) :: .own w.heap.size 51 5 (.slice B nn d) nn ys :: .blk go 51 (vlL 6 0 ⟨#[]⟩ (.slice A nn c) (.slice B nn d)) :: .blk g2 51 vl0 :: .blk g1 40 doc :: TE)
theorem Mid.put {w : World} {g1 g2 go b nn : Nat} {doc : List Value} {ms : List (List UInt8 × JV)} {wx : World} {A B : Option Addr} {c d : Nat} {ys cs : List Value} {TE es : List Ent} {s : List UInt8} {v : JV} (hnn : nn = ms.length) (hb : nn + 1 ≤ b) (hc : nn + 1 ≤ c) (hd : nn + 1 ≤ d) (hT : VTL (ms.map (fun x => x.2)) ys TE) (hv : VT v cs es)
  (hF : Fr [] w wx (.own w.heap.size 9 1 (.slice A (nn + 1) c) (nn + 1) ((ms.map (fun x => x.1) ++ [s]).map strv) :: .own w.heap.size 51 5 (.slice B (nn + 1) d) (nn + 1) (ys ++ cs) :: .blk go 51 (vlL 6 0 ⟨#[]⟩ (.slice A (nn + 1) c) (.slice B (nn + 1) d)) :: .blk g2 51 vl0 :: .blk g1 40 doc :: (TE ++ es))) :
  Mid w g1 g2 go b doc (ms ++ [(s, v)]) wx := by
 refine ⟨nn + 1, A, c, B, d, ys ++ cs, TE ++ es, by rw [List.length_append, hnn]; rfl, hb, hc, hd, ?_, ?_⟩
 ·rw [List.map_append]; exact hT.snoc hv
 ·rw [List.map_append]; exact hF
theorem Fr.lfE {X : List Nat} {w0 w : World} {es : List Ent} (h : Fr X w0 w es) : Fr X w0 w (es ++ tLf) := ((h.pushNone 5).pushNone 1).perm (List.perm_append_comm (l₁ := tLf))
end Go.Proofs.YtlhicfpmlncomaaGreatDoor

namespace Go.Proofs.YtlhicfpmlncomaaGreatDoor
open Go.ChangeShapes Go.WideShapes Go.ChangeAt Go.RowKit
set_option linter.unusedSimpArgs false
set_option linter.unusedVariables false
/-- How much notes, a descriptor, a document are. -/
def ntW (x : MNote) : Nat := x.key.length + x.val.length + 2
def dsW (d : MDesc) : Nat := d.media.length + (d.notes.map ntW).sum + 2
def dcW (d : MDoc) : Nat := d.media.length + d.type.length + dsW d.config + (d.edges.map dsW).sum + dsW d.subject + (d.notes.map ntW).sum + 2
theorem sum_mem {α : Type} {g : α → Nat} : ∀ {l : List α} {x : α}, x ∈ l → g x ≤ (l.map g).sum
 | [], _, h => by cases h
 | y :: l, x, h => by
  rw [List.map_cons, List.sum_cons]
  rcases List.mem_cons.1 h with rfl | h
  ·omega
  ·have := sum_mem (g := g) h; omega
theorem sum_two {α : Type} {g : α → Nat} (hg : ∀ x, 2 ≤ g x) : ∀ l : List α, 2 * l.length ≤ (l.map g).sum
 | [] => by simp
 | y :: l => by
  have := sum_two hg l
  have := hg y
  rw [List.map_cons, List.sum_cons, List.length_cons]; omega
theorem nt_sm {l : List MNote} (h : (l.map ntW).sum ≤ 1048576) : NtSm l := by
 have h2 := sum_two (g := ntW) (fun x => by unfold ntW; omega) l
 refine ⟨by omega, fun x hx => ?_⟩
 have := sum_mem (g := ntW) hx
 have h3 : ntW x = x.key.length + x.val.length + 2 := rfl
 omega
theorem ds_sm {d : MDesc} (h : dsW d ≤ 1048576) : DsSm d := by
 unfold dsW at h
 exact ⟨by omega, nt_sm (by omega)⟩
theorem dc_sm {d : MDoc} (h : dcW d ≤ 1048576) : DcSm d := by
 unfold dcW at h
 have h2 := sum_two (g := dsW) (fun x => by unfold dsW; omega) d.edges
 refine ⟨by omega, by omega, ds_sm (by omega), ⟨by omega, fun x hx => ?_⟩, ds_sm (by omega), nt_sm (by omega)⟩
 have := sum_mem (g := dsW) hx
 exact ds_sm (by omega)
theorem dc_mb {d : MDoc} (h : dcW d ≤ 1048576) : MB d := by
 have h2 := dc_sm h
 obtain ⟨_, _, h3, ⟨h4, h5⟩, h6, h7⟩ := h2
 exact ⟨by have := h3.2.1; omega, by omega, fun x hx => by have := (h5 x hx).2.1; omega, by have := h6.2.1; omega, by have := h7.1; omega⟩
theorem flat_part {α : Type} {f : α → List Value} {sz : Nat} : ∀ {l : List α}, (∀ u ∈ l, (f u).length = sz) → ∀ {i : Nat} {u : α}, l[i]? = some u → ((l.flatMap f).drop (i * sz)).take sz = f u
 | [], _, i, u, h => by cases h
 | x :: l, hl, i, u, h => by
  have hx := hl x (by simp)
  rw [List.flatMap_cons]
  cases i with
  | zero =>
   injection h with h
   subst h
   rw [Nat.zero_mul, List.drop_zero, List.take_left' hx]
  | succ i =>
   rw [show (i + 1) * sz = (f x).length + i * sz by rw [hx, Nat.add_mul, Nat.one_mul, Nat.add_comm], ← List.drop_drop, List.drop_left]
   exact flat_part (fun u hu => hl u (by simp [hu])) (by simpa using h)
structure NTT (P : Program) (t : TypeId) (fs : Array Field) (f0 f1 : Field) : Prop where
 und : P.underlying t = some (.struct fs)
 size : P.cellsOf t = 2
 at_ : fs = #[f0, f1]
 off : [f0, f1].map (fun f => (f.offset, P.cellsOf f.type)) = [(0, 1), (1, 1)]
 typ : [f0, f1].map (fun f => P.underlying f.type) = [some .string, some .string]
structure DST (P : Program) (t tn ub : TypeId) (fs : Array Field) (f0 f1 f2 f3 : Field) : Prop where
 und : P.underlying t = some (.struct fs)
 size : P.cellsOf t = 35
 at_ : fs = #[f0, f1, f2, f3]
 off : [f0, f1, f2, f3].map (fun f => (f.offset, P.cellsOf f.type)) = [(0, 1), (1, 32), (33, 1), (34, 1)]
 typ : [f0, f1, f2, f3].map (fun f => P.underlying f.type) = [some .string, some (.array 32 ub), some (.int .i64), some (.slice tn)]
 byt : P.underlying ub = some (.int .u8)
 one : P.cellsOf ub = 1
structure DCT (P : Program) (t td tn : TypeId) (fs : Array Field) (f0 f1 f2 f3 f4 f5 f6 : Field) : Prop where
 und : P.underlying t = some (.struct fs)
 size : P.cellsOf t = 75
 at_ : fs = #[f0, f1, f2, f3, f4, f5, f6]
 off : [f0, f1, f2, f3, f4, f5, f6].map (fun f => (f.offset, P.cellsOf f.type)) = [(0, 1), (1, 1), (2, 35), (37, 1), (38, 35), (73, 1), (74, 1)]
 typ : [f0, f1, f3, f5, f6].map (fun f => P.underlying f.type) = [some .string, some .string, some (.slice td), some .bool, some (.slice tn)]
 cfg : f2.type = td ∧ f4.type = td
section
variable {H : Type} {enc : TypeId × Value → H} {P : Program} {W : World} {hd : Bool}
theorem two_xs {xs : List (DataW H × List MemPlace)} (h : xs.length = 2) : ∃ x0 x1, xs = [x0, x1] := by
 match xs, h with
 | [x0, x1], _ => exact ⟨_, _, rfl⟩
theorem four_xs {xs : List (DataW H × List MemPlace)} (h : xs.length = 4) : ∃ x0 x1 x2 x3, xs = [x0, x1, x2, x3] := by
 match xs, h with
 | [x0, x1, x2, x3], _ => exact ⟨_, _, _, _, rfl⟩
theorem seven_xs {xs : List (DataW H × List MemPlace)} (h : xs.length = 7) : ∃ x0 x1 x2 x3 x4 x5 x6, xs = [x0, x1, x2, x3, x4, x5, x6] := by
 match xs, h with
 | [x0, x1, x2, x3, x4, x5, x6], _ => exact ⟨_, _, _, _, _, _, _, rfl⟩
theorem nt_in {t : TypeId} {fs : Array Field} {f0 f1 : Field} (T : NTT P t fs f0 f1) {fuel : Nat} {cs : List Value} {x : DataW H × List MemPlace} (h : DataW.trod enc P W 0 (fun _ => true) hd fuel t cs = some x) :
  ∃ u : MNote, cs = ntL u ∧ ntW u ≤ Rows.uptoBulk x.1 := by
 obtain ⟨xs, n, rfl, hx, hlen, hxl, hg⟩ := DataW.trod_struct T.und h
 rw [T.at_] at hxl
 obtain ⟨x0, x1, rfl⟩ := two_xs hxl
 have ho := T.off
 have ht := T.typ
 simp only [List.map_cons, List.map_nil, List.cons.injEq, Prod.mk.injEq, and_true] at ho ht
 obtain ⟨⟨o0, z0⟩, ⟨o1, z1⟩⟩ := ho
 obtain ⟨u0, u1⟩ := ht
 have g0 := hg 0 f0 (by rw [T.at_]; rfl)
 have g1 := hg 1 f1 (by rw [T.at_]; rfl)
 rw [o0, z0] at g0
 rw [o1, z1] at g1
 obtain ⟨s, e0, b0⟩ := strs_in u0 g0
 obtain ⟨s', e1, b1⟩ := strs_in u1 g1
 rw [T.size] at hlen
 refine ⟨⟨s.data.toList, s'.data.toList⟩, ?_, ?_⟩
 ·rw [show cs = cs.drop 0 from rfl, cut_at cs 0 1, e0, cut_at cs (0 + 1) 1, e1, List.drop_of_length_le (by omega)]
  rfl
 ·rw [hx]
  simp only [List.map_cons, List.map_nil, Rows.uptoBulk, Rows.uptoBulkAll, ntW]
  have h0 : s.data.toList.length = s.size := str_len s
  have h1 : s'.data.toList.length = s'.size := str_len s'
  omega
theorem ds_in {t tn ub : TypeId} {fs fn : Array Field} {f0 f1 f2 f3 n0 n1 : Field} (T : DST P t tn ub fs f0 f1 f2 f3) (N : NTT P tn fn n0 n1) {fuel : Nat} {cs : List Value} {x : DataW H × List MemPlace} (h : DataW.trod enc P W 0 (fun _ => true) hd fuel t cs = some x) :
  ∃ d : MDesc, RdD W d cs ∧ cs.length = 35 ∧ dsW d ≤ Rows.uptoBulk x.1 := by
 obtain ⟨xs, n, rfl, hx, hlen, hxl, hg⟩ := DataW.trod_struct T.und h
 rw [T.at_] at hxl
 obtain ⟨x0, x1, x2, x3, rfl⟩ := four_xs hxl
 have ho := T.off
 have ht := T.typ
 simp only [List.map_cons, List.map_nil, List.cons.injEq, Prod.mk.injEq, and_true] at ho ht
 obtain ⟨⟨o0, z0⟩, ⟨o1, z1⟩, ⟨o2, z2⟩, ⟨o3, z3⟩⟩ := ho
 obtain ⟨u0, u1, u2, u3⟩ := ht
 have g0 := hg 0 f0 (by rw [T.at_]; rfl)
 have g1 := hg 1 f1 (by rw [T.at_]; rfl)
 have g2 := hg 2 f2 (by rw [T.at_]; rfl)
 have g3 := hg 3 f3 (by rw [T.at_]; rfl)
 rw [o0, z0] at g0
 obtain ⟨dg, e1, l1⟩ := arr_in u1 T.byt T.one z1 g1
 rw [o1, z1] at e1
 rw [o2, z2] at g2
 rw [o3, z3] at g3
 obtain ⟨s, e0, b0⟩ := strs_in u0 g0
 obtain ⟨z, e2, w2⟩ := ints_in u2 g2
 obtain ⟨A, nn, cn, l, e3, h1, h2, h3, h4, h5⟩ := slR_in (α := MNote) (f := ntL) (g := ntW) (p := fun _ => True) u3 N.size (by decide) (fun m cs x _ h => by
  obtain ⟨u, hu, hb⟩ := nt_in N h
  exact ⟨u, hu, rfl, trivial, hb⟩) g3
 rw [T.size] at hlen
 refine ⟨⟨s.data.toList, dg, z, l⟩, ⟨.slice A nn cn, l1, ⟨A, nn, cn, h1, h2.symm, rfl, h3⟩, ?_⟩, hlen, ?_⟩
 ·rw [show cs = cs.drop 0 from rfl, cut_at cs 0 1, e0, cut_at cs (0 + 1) 32, e1, cut_at cs (0 + 1 + 32) 1, e2, cut_at cs (0 + 1 + 32 + 1) 1, e3, List.drop_of_length_le (by omega)]
  simp [dsL, strv]
 ·rw [hx]
  simp only [List.map_cons, List.map_nil, Rows.uptoBulk, Rows.uptoBulkAll, dsW]
  have h0 : s.data.toList.length = s.size := str_len s
  omega
theorem dc_in {t td tn ub : TypeId} {fs fd fn : Array Field} {f0 f1 f2 f3 f4 f5 f6 d0 d1 d2 d3 n0 n1 : Field} (T : DCT P t td tn fs f0 f1 f2 f3 f4 f5 f6) (D : DST P td tn ub fd d0 d1 d2 d3) (N : NTT P tn fn n0 n1) {fuel : Nat} {cs : List Value} {x : DataW H × List MemPlace} (h : DataW.trod enc P W 0 (fun _ => true) hd fuel t cs = some x) :
  ∃ d : MDoc, RdDoc W d cs ∧ dcW d ≤ Rows.uptoBulk x.1 := by
 obtain ⟨xs, n, rfl, hx, hlen, hxl, hg⟩ := DataW.trod_struct T.und h
 rw [T.at_] at hxl
 obtain ⟨x0, x1, x2, x3, x4, x5, x6, rfl⟩ := seven_xs hxl
 have ho := T.off
 have ht := T.typ
 simp only [List.map_cons, List.map_nil, List.cons.injEq, Prod.mk.injEq, and_true] at ho ht
 obtain ⟨⟨o0, z0⟩, ⟨o1, z1⟩, ⟨o2, z2⟩, ⟨o3, z3⟩, ⟨o4, z4⟩, ⟨o5, z5⟩, ⟨o6, z6⟩⟩ := ho
 obtain ⟨u0, u1, u3, u5, u6⟩ := ht
 obtain ⟨t2, t4⟩ := T.cfg
 have g0 := hg 0 f0 (by rw [T.at_]; rfl)
 have g1 := hg 1 f1 (by rw [T.at_]; rfl)
 have g2 := hg 2 f2 (by rw [T.at_]; rfl)
 have g3 := hg 3 f3 (by rw [T.at_]; rfl)
 have g4 := hg 4 f4 (by rw [T.at_]; rfl)
 have g5 := hg 5 f5 (by rw [T.at_]; rfl)
 have g6 := hg 6 f6 (by rw [T.at_]; rfl)
 rw [o0, z0] at g0
 rw [o1, z1] at g1
 rw [o2, z2, t2] at g2
 rw [o3, z3] at g3
 rw [o4, z4, t4] at g4
 rw [o5, z5] at g5
 rw [o6, z6] at g6
 obtain ⟨s0, e0, b0⟩ := strs_in u0 g0
 obtain ⟨s1, e1, b1⟩ := strs_in u1 g1
 obtain ⟨c2, r2, l2, w2⟩ := ds_in D N g2
 obtain ⟨c4, r4, l4, w4⟩ := ds_in D N g4
 obtain ⟨b, e5⟩ := bools_in u5 g5
 obtain ⟨Ae, ne, ce, le, e3, h1, h2, h3, h4, h5⟩ := slR_in (α := MDesc × List Value) (f := (·.2)) (g := fun u => dsW u.1) (p := fun u => RdD W u.1 u.2) u3 D.size (by decide) (fun m cs x _ h => by
  obtain ⟨d, hr, hl, hw⟩ := ds_in D N h
  exact ⟨(d, cs), rfl, hl, hr, hw⟩) g3
 obtain ⟨An, nn, cn, ln, e6, k1, k2, k3, k4, k5⟩ := slR_in (α := MNote) (f := ntL) (g := ntW) (p := fun _ => True) u6 N.size (by decide) (fun m cs x _ h => by
  obtain ⟨u, hu, hb⟩ := nt_in N h
  exact ⟨u, hu, rfl, trivial, hb⟩) g6
 rw [T.size] at hlen
 refine ⟨⟨s0.data.toList, s1.data.toList, c2, le.map (·.1), c4, b, ln⟩, ⟨(cs.drop 2).take 35, .slice Ae ne ce, (cs.drop 38).take 35, .slice An nn cn, r2, ⟨Ae, ne, ce, _, h1, by rw [List.length_map, h2], rfl, h3, fun i d hi => ?_⟩, r4, ⟨An, nn, cn, k1, k2.symm, rfl, k3⟩, ?_⟩, ?_⟩
 ·rw [List.getElem?_map] at hi
  cases hu : le[i]? with
  | none => rw [hu] at hi; cases hi
  | some u =>
   rw [hu] at hi
   injection hi with hi
   subst hi
   rw [flat_part (fun u hu => (h4 u hu).1) hu]
   exact (h4 u (List.mem_of_getElem? hu)).2
 ·have e : cs = ((cs.drop 0).take 1) ++ (((cs.drop 1).take 1) ++ (((cs.drop 2).take 35) ++ (((cs.drop 37).take 1) ++ (((cs.drop 38).take 35) ++ (((cs.drop 73).take 1) ++ ((cs.drop 74).take 1)))))) := by
   have q : (cs.drop 74).take 1 = cs.drop 74 := by rw [List.take_of_length_le (by rw [List.length_drop]; omega)]
   rw [q, ← cut_at cs 73 1, ← cut_at cs 38 35, ← cut_at cs 37 1, ← cut_at cs 2 35, ← cut_at cs 1 1, ← cut_at cs 0 1]
   rfl
  rw [e0, e1, e3, e5, e6] at e
  simpa [docL, strv] using e
 ·rw [hx]
  simp only [List.map_cons, List.map_nil, Rows.uptoBulk, Rows.uptoBulkAll, dcW]
  have h0 : s0.data.toList.length = s0.size := str_len s0
  have h1' : s1.data.toList.length = s1.size := str_len s1
  have h6 : (le.map (fun u => dsW u.1)).sum = ((le.map (·.1)).map dsW).sum := by rw [List.map_map]; rfl
  omega
theorem mdoc_in {t td tn ub : TypeId} {fs fd fn : Array Field} {f0 f1 f2 f3 f4 f5 f6 d0 d1 d2 d3 n0 n1 : Field} (T : DCT P t td tn fs f0 f1 f2 f3 f4 f5 f6) (D : DST P td tn ub fd d0 d1 d2 d3) (N : NTT P tn fn n0 n1) {r : Reach} {b0 : Nat} {v : Value} {d : DataW H} {ps : List MemPlace} (hv : Value.okWide P W r b0 t v) (h : DataW.Trod enc P W 0 (fun _ => true) hd t v d ps) :
  ∃ (q : MDoc) (cs : List Value), v = .agg cs.toArray ∧ RdDoc W q cs ∧ dcW q ≤ Rows.uptoBulk d := by
 obtain ⟨cs, rfl, hsz⟩ := okWide_struct T.und hv
 obtain ⟨fuel, hf⟩ := h
 obtain ⟨q, h1, h2⟩ := dc_in T D N (cs := cs.toList) (x := (d, ps)) hf
 exact ⟨q, cs.toList, by simp, h1, h2⟩
end
end Go.Proofs.YtlhicfpmlncomaaGreatDoor

namespace Go.Proofs.YtlhicfpmlncomaaGreatDoor
open Go.RowKit
set_option linter.unusedSimpArgs false
set_option linter.unusedVariables false
theorem dgT_len71 {d : List UInt8} (h : d.length = 32) : (dgT d).length = 71 := by unfold dgT; rw [List.length_append, hexL_len2, h]; rfl
mutual
theorem jW_txB : ∀ (v : JV), jW v ≤ 140737488355328 → JTx v
 | .mk k n t ns ks, h => by
  rw [jW] at h
  rw [JTx]
  exact ⟨by omega, fun s hs => by have := jWn_mem hs; omega, jWL_txB ks (by omega)⟩
theorem jWL_txB : ∀ (ks : List JV), jWL ks ≤ 140737488355328 → JTxL ks
 | [], _ => by rw [JTxL]; trivial
 | v :: vs, h => by
  rw [jWL] at h
  rw [JTxL]
  exact ⟨jW_txB v (by omega), jWL_txB vs (by omega)⟩
end
theorem JSmL_of : ∀ {ks : List JV}, (∀ v ∈ ks, JSm v) → JSmL ks
 | [], _ => by rw [JSmL]; trivial
 | v :: vs, h => by rw [JSmL]; exact ⟨h v List.mem_cons_self, JSmL_of fun x hx => h x (List.mem_cons_of_mem _ hx)⟩
theorem JIL_of : ∀ {ks : List JV}, (∀ v ∈ ks, JI v) → JIL ks
 | [], _ => by rw [JIL]; trivial
 | v :: vs, h => by rw [JIL]; exact ⟨h v List.mem_cons_self, JIL_of fun x hx => h x (List.mem_cons_of_mem _ hx)⟩
theorem jWL_sum : ∀ ks : List JV, jWL ks = (ks.map jW).sum
 | [] => rfl
 | v :: vs => by rw [jWL, List.map_cons, List.sum_cons, jWL_sum vs]
/-- How much members are. -/
def mW (ms : List (List UInt8 × JV)) : Nat := (ms.map fun x => x.1.length + 1 + jW x.2).sum
theorem mW_app (a b : List (List UInt8 × JV)) : mW (a ++ b) = mW a + mW b := by unfold mW; rw [List.map_append, List.sum_append]
theorem mW_cons (x : List UInt8 × JV) (b : List (List UInt8 × JV)) : mW (x :: b) = x.1.length + 1 + jW x.2 + mW b := by unfold mW; rw [List.map_cons, List.sum_cons]
theorem mW_nil : mW [] = 0 := rfl
theorem jW_O (ms : List (List UInt8 × JV)) : jW (jO ms) = mW ms + 1 := by
 unfold jO
 rw [jW, jWL_sum, List.map_map, List.map_map]
 have : ∀ l : List (List UInt8 × JV), (l.map ((fun x => x.length + 1) ∘ fun x => x.1)).sum + (l.map (jW ∘ fun x => x.2)).sum = mW l := by
  intro l
  induction l with
  | nil => rfl
  | cons x l ih => rw [mW_cons, ← ih]; simp only [List.map_cons, List.sum_cons, Function.comp]; omega
 have h := this ms
 simp only [List.length_nil]
 omega
theorem jW_T (s : List UInt8) : jW (jT s) = s.length + 1 := by unfold jT; rw [jW, jWL]; simp
theorem jW_N (n : Int) : jW (jN n) = 1 := by unfold jN; rw [jW, jWL]; simp
theorem jW_L (ks : List JV) : jW (jL ks) = (ks.map jW).sum + 1 := by unfold jL; rw [jW, jWL_sum]; simp
theorem mW_notes : ∀ l : List MNote, mW (l.map fun x => (x.key, jT x.val)) = (l.map ntW).sum
 | [] => rfl
 | x :: l => by rw [List.map_cons, mW_cons, mW_notes l, jW_T, List.map_cons, List.sum_cons]; unfold ntW; simp only []; omega
theorem mW_with (l : List MNote) : mW (tWith l) ≤ (l.map ntW).sum + 13 := by
 unfold tWith
 split
 ·rw [mW_nil]; omega
 ·rw [mW_cons, mW_nil, show jW (tNotes l) = mW (l.map fun x => (x.key, jT x.val)) + 1 from jW_O _, mW_notes]
  have : kNotes.length = 11 := rfl
  simp only []
  omega
theorem jW_desc {d : MDesc} (h : d.dig.length = 32) : jW (tDesc d) ≤ dsW d + 120 := by
 unfold tDesc
 rw [jW_O, mW_app, mW_cons, mW_cons, mW_cons, mW_nil, jW_T, jW_T, jW_N, dgT_len71 h]
 have := mW_with d.notes
 have h1 : kMedia.length = 9 := rfl
 have h2 : kDigest.length = 6 := rfl
 have h3 : kSize.length = 4 := rfl
 unfold dsW
 simp only []
 omega
theorem sum_desc : ∀ {l : List MDesc}, (∀ x ∈ l, x.dig.length = 32) → ((l.map tDesc).map jW).sum ≤ (l.map dsW).sum + 120 * l.length
 | [], _ => by simp
 | x :: l, h => by
  have h1 := jW_desc (h x List.mem_cons_self)
  have h2 := sum_desc (l := l) (fun y hy => h y (List.mem_cons_of_mem _ hy))
  simp only [List.map_cons, List.sum_cons, List.length_cons]
  omega
theorem jW_tell {D : MDoc} (hr : mRight D) (hg : MDig D) : jW (mTell D) ≤ dcW D + 20000 := by
 obtain ⟨g1, g2, g3⟩ := hg
 have hed := hr.2.2.1
 have h0 := mW_with D.notes
 have h1 := jW_desc g1
 have h2 := jW_desc g2
 have h3 := sum_desc g3
 have e1 : mW (tType D.type) ≤ D.type.length + 20 := by
  unfold tType
  split
  ·rw [mW_nil]; omega
  ·rw [mW_cons, mW_nil, jW_T]
   have : kType.length = 12 := rfl
   simp only []
   omega
 have e2 : mW (tMain D) ≤ dsW D.config + (D.edges.map dsW).sum + 120 * D.edges.length + 200 := by
  unfold tMain
  split
  ·rw [mW_cons, mW_cons, mW_nil, jW_L]
   have a1 : kConfig.length = 6 := rfl
   have a2 : kLayers.length = 6 := rfl
   simp only []
   omega
  ·rw [mW_cons, mW_nil, jW_L]
   have a1 : kManifests.length = 9 := rfl
   simp only []
   omega
 have e3 : mW (tSubj D) ≤ dsW D.subject + 200 := by
  unfold tSubj
  split
  ·rw [mW_cons, mW_nil]
   have a1 : kSubject.length = 7 := rfl
   simp only []
   omega
  ·rw [mW_nil]; omega
 unfold mTell tMems
 rw [jW_O, mW_app, mW_app, mW_app, mW_app, mW_cons, mW_cons, mW_nil, jW_N, jW_T]
 have a1 : kVersion.length = 13 := rfl
 have a2 : kMedia.length = 9 := rfl
 unfold dcW
 simp only []
 omega
/-- Members that are small, and numbers of a machine. -/
def MOk (v : JV) : Prop := JSm v ∧ JI v
theorem mok_T (s : List UInt8) : MOk (jT s) := ⟨by unfold jT; rw [JSm]; exact ⟨by simp, by simp, by rw [JSmL]; trivial⟩, by unfold jT; rw [JI]; exact ⟨by omega, by omega, by rw [JIL]; trivial⟩⟩
theorem mok_N {n : Int} (h : 0 ≤ n ∧ n ≤ 1099511627776) : MOk (jN n) := ⟨by unfold jN; rw [JSm]; exact ⟨by simp, by simp, by rw [JSmL]; trivial⟩, by unfold jN; rw [JI]; exact ⟨by omega, by omega, by rw [JIL]; trivial⟩⟩
theorem mok_O {ms : List (List UInt8 × JV)} (hl : ms.length ≤ 1048576) (h : ∀ x ∈ ms, MOk x.2) : MOk (jO ms) := by
 have hk : ∀ v ∈ ms.map (fun x => x.2), MOk v := fun v hv => by
  obtain ⟨x, hx, rfl⟩ := List.mem_map.1 hv
  exact h x hx
 refine ⟨?_, ?_⟩
 ·unfold jO; rw [JSm]; exact ⟨by rw [List.length_map]; exact hl, by rw [List.length_map]; exact hl, JSmL_of fun v hv => (hk v hv).1⟩
 ·unfold jO; rw [JI]; exact ⟨by omega, by omega, JIL_of fun v hv => (hk v hv).2⟩
theorem mok_L {ks : List JV} (hl : ks.length ≤ 1048576) (h : ∀ v ∈ ks, MOk v) : MOk (jL ks) := by
 refine ⟨?_, ?_⟩
 ·unfold jL; rw [JSm]; exact ⟨by simp, hl, JSmL_of fun v hv => (h v hv).1⟩
 ·unfold jL; rw [JI]; exact ⟨by omega, by omega, JIL_of fun v hv => (h v hv).2⟩
theorem mok_with {l : List MNote} (hl : l.length ≤ 32) : ∀ x ∈ tWith l, MOk x.2 := fun x hx => by
 unfold tWith at hx
 split at hx
 ·cases hx
 ·rw [List.mem_singleton.1 hx]
  refine mok_O (by rw [List.length_map]; omega) fun y hy => ?_
  obtain ⟨z, _, rfl⟩ := List.mem_map.1 hy
  exact mok_T _
theorem with_len (l : List MNote) : (tWith l).length ≤ 1 := by unfold tWith; split <;> simp
theorem mok_desc {d : MDesc} (hr : mRightD d) : MOk (tDesc d) := by
 have hwl := with_len d.notes
 refine mok_O (by simp; omega) fun x hx => ?_
 rcases List.mem_append.1 hx with hx | hx
 ·simp only [List.mem_cons, List.not_mem_nil, or_false] at hx
  rcases hx with rfl | rfl | rfl
  ·exact mok_T _
  ·exact mok_T _
  ·exact mok_N ⟨hr.2.1, hr.2.2.1⟩
 ·exact mok_with hr.2.2.2.1 x hx
theorem mems_len (D : MDoc) : (tMems D).length ≤ 8 := by
 have h1 := with_len D.notes
 have h2 : (tType D.type).length ≤ 1 := by unfold tType; split <;> simp
 have h3 : (tMain D).length ≤ 2 := by unfold tMain; split <;> simp
 have h4 : (tSubj D).length ≤ 1 := by unfold tSubj; split <;> simp
 unfold tMems
 simp only [List.length_append, List.length_cons, List.length_nil]
 omega
theorem mok_mems {D : MDoc} (hr : mRight D) : ∀ x ∈ tMems D, MOk x.2 := by
 obtain ⟨h1, h2, h3, h4, h5, h6, h7⟩ := hr
 have hl : MOk (jL (D.edges.map tDesc)) := mok_L (by rw [List.length_map]; omega) fun v hv => by
  obtain ⟨y, hy, rfl⟩ := List.mem_map.1 hv
  exact mok_desc (h5 y hy)
 intro x hx
 unfold tMems at hx
 simp only [List.mem_append, List.mem_cons, List.not_mem_nil, or_false] at hx
 rcases hx with (rfl | rfl) | hx | hx | hx | hx
 ·exact mok_N (by decide)
 ·exact mok_T _
 ·unfold tType at hx
  split at hx
  ·cases hx
  ·rw [List.mem_singleton.1 hx]; exact mok_T _
 ·unfold tMain at hx
  split at hx
  ·rename_i hi
   simp only [List.mem_cons, List.not_mem_nil, or_false] at hx
   rcases hx with rfl | rfl
   ·exact mok_desc (h6 hi)
   ·exact hl
  ·rw [List.mem_singleton.1 hx]; exact hl
 ·unfold tSubj at hx
  split at hx
  ·rename_i hh
   rw [List.mem_singleton.1 hx]; exact mok_desc (h7 hh)
  ·cases hx
 ·exact mok_with h4.1 x hx
/-- What Write asks of a value. -/
structure WOk (v : JV) : Prop where
 sm : JSm v
 tx : JTx v
 fl : 6 * (jFull v).length ≤ 140737480000000
 tot : jTot v ≤ 10000000
theorem wok_of {v : JV} (h : MOk v) (hw : jW v ≤ 5000000) : WOk v := by
 have h1 := jW_full v h.2
 have h2 := jTot_w v
 exact ⟨h.1, jW_txB v (by omega), by omega, by omega⟩
theorem tell_ok {D : MDoc} (hr : mRight D) (hg : MDig D) (hw : dcW D ≤ 1048576) : WOk (mTell D) :=
 wok_of (mok_O (Nat.le_trans (mems_len D) (by decide)) (mok_mems hr)) (by have := jW_tell hr hg; omega)
theorem RdDoc.dig {w : World} {D : MDoc} {cs : List Value} (h : RdDoc w D cs) : MDig D := by
 obtain ⟨cf, eg, sj, nt, ⟨_, h1, _⟩, ⟨A, n, c, xs, _, _, _, _, h2⟩, ⟨_, h3, _⟩, _⟩ := h
 refine ⟨h1, h3, fun x hx => ?_⟩
 obtain ⟨i, hi⟩ := List.mem_iff_getElem?.1 hx
 exact (h2 i x hi).choose_spec.1
end Go.Proofs.YtlhicfpmlncomaaGreatDoor

namespace Go.Proofs.YtlhicfpmlncomaaGreatDoor
open Go.RowKit
set_option linter.unusedSimpArgs false
theorem VT.rdF {v : JV} {cs : List Value} {es' es : List Ent} {X : List Nat} {w0 w : World} (h : VT v cs es') (hF : Fr X w0 w es) (hs : ∀ e ∈ es', e ∈ es) : VRd w (· < w.heap.size) v cs :=
 VT.rd v h fun e he => by
  obtain ⟨i, hi⟩ := List.mem_iff_getElem?.1 (hs e he)
  exact ⟨hF.holds i e hi, fun b hb => Ent.lt (hF.holds i e hi) hb⟩
/-- Write, within a frame; its text stands ahead of the other entries. -/
def WriteEndF (X : List Nat) (w0 : World) (es : List Ent) (r : List UInt8 × Nat) (e : Ending) (w' : World) : Prop :=
 ∃ A n c, e = .returned (.tuple #[.slice A n c, .int .i64 (r.2 : Int)]) ∧ n = r.1.length ∧ n ≤ c ∧ Fr X w0 w' (.rd A 1 n (r.1.map bv) :: es)
theorem write_F {X : List Nat} {w0 w : World} {es : List Ent} {B : Nat} (hF : Fr X w0 w es) (hL : LibsAt B w) (hB : B ≤ w.heap.size) {v : JV} {cs : List Value} (hv : VRd w (· < w.heap.size) v cs) (hsm : JSm v) (htx : JTx v) (hfl : 6 * (jFull v).length ≤ 140737480000000) :
  Calls Tryz.prog 61 #[.agg cs.toArray] w (WriteEndF X w0 es (jWrite v)) := by
 refine (write_any v cs w (hL.up hB) hv hsm htx hfl).mono ?_
 rintro e w' ⟨u, rfl, hF'⟩
 obtain ⟨A, c, rfl, hc, hr⟩ := (hF'.own (i := 0) rfl).arg
 have h1 := hF'.toRd (i := 0) rfl
 simp only [List.set_cons_zero] at h1
 exact ⟨A, _, c, rfl, rfl, hc, hF.join h1⟩
end Go.Proofs.YtlhicfpmlncomaaGreatDoor

namespace Go.Proofs.YtlhicfpmlncomaaGreatDoor
open Go.RowKit
set_option linter.unusedSimpArgs false
set_option linter.unusedVariables false
/-- Members are told so far. -/
def OMid (w : World) (g1 go b : Nat) (doc : List Value) (ms : List (List UInt8 × JV)) (wx : World) : Prop :=
 ∃ (nn : Nat) (A : Option Addr) (c : Nat) (B : Option Addr) (d : Nat) (ys : List Value) (TE : List Ent), nn = ms.length ∧ nn ≤ b ∧ nn ≤ c ∧ nn ≤ d ∧ VTL (ms.map (fun x => x.2)) ys TE ∧
  Fr [] w wx (.own w.heap.size 9 1 (.slice A nn c) nn ((ms.map (fun x => x.1)).map strv) :: .own w.heap.size 76 5 (.slice B nn d) nn ys :: .blk go 116 (vlL 6 0 ⟨#[]⟩ (.slice A nn c) (.slice B nn d)) :: .blk g1 31 doc :: TE)
theorem OMid.put {w : World} {g1 go b nn : Nat} {doc : List Value} {ms : List (List UInt8 × JV)} {wx : World} {A B : Option Addr} {c d : Nat} {ys cs : List Value} {TE es : List Ent} {s : List UInt8} {v : JV} (hnn : nn = ms.length) (hb : nn + 1 ≤ b) (hc : nn + 1 ≤ c) (hd : nn + 1 ≤ d) (hT : VTL (ms.map (fun x => x.2)) ys TE) (hv : VT v cs es)
  (hF : Fr [] w wx (.own w.heap.size 9 1 (.slice A (nn + 1) c) (nn + 1) ((ms.map (fun x => x.1) ++ [s]).map strv) :: .own w.heap.size 76 5 (.slice B (nn + 1) d) (nn + 1) (ys ++ cs) :: .blk go 116 (vlL 6 0 ⟨#[]⟩ (.slice A (nn + 1) c) (.slice B (nn + 1) d)) :: .blk g1 31 doc :: (TE ++ es))) :
  OMid w g1 go b doc (ms ++ [(s, v)]) wx := by
 refine ⟨nn + 1, A, c, B, d, ys ++ cs, TE ++ es, by rw [List.length_append, hnn]; rfl, hb, hc, hd, ?_, ?_⟩
 ·rw [List.map_append]; exact hT.snoc hv
 ·rw [List.map_append]; exact hF
theorem lpermO {α : Type} (z a l n k o g1 : α) (te le : List α) : (z :: a :: l :: n :: k :: o :: g1 :: (te ++ le)).Perm (n :: k :: o :: g1 :: l :: (te ++ (z :: a :: le))) := by
 have e1 : (z :: a :: l :: n :: k :: o :: g1 :: (te ++ le)) = [z, a] ++ (([l] ++ [n, k, o, g1]) ++ (te ++ le)) := rfl
 have e2 : (n :: k :: o :: g1 :: l :: (te ++ (z :: a :: le))) = ([n, k, o, g1] ++ [l]) ++ (te ++ ([z, a] ++ le)) := by simp
 rw [e1, e2]
 refine List.Perm.trans (List.perm_append_comm_assoc _ _ _) ?_
 exact List.Perm.append List.perm_append_comm (List.perm_append_comm_assoc _ _ _)
/-- What the program's Write tells. -/
def PWr (w : World) (r : List UInt8 × Nat) (e : Ending) (w' : World) : Prop :=
 ∃ A n c, e = .returned (.tuple #[.slice A n c, .int .i64 (r.2 : Int)]) ∧ n = r.1.length ∧ n ≤ c ∧ Fr [] w w' [.rd A 1 n (r.1.map bv)]
theorem PWr.nil {X : List Ent} {w w' : World} {f : Nat} (hF : Fr [] w w' X) : PWr w ([], f) (.returned (.tuple #[.slice none 0 0, .int .i64 (f : Int)])) w' :=
 ⟨none, 0, 0, rfl, rfl, Nat.le_refl _, (hF.sub (List.nil_sublist _)).pushNone 1⟩
set_option maxRecDepth 20000 in
set_option maxHeartbeats 25600000 in
theorem pwrite_any (D : MDoc) (cs : List Value) (w : World) (hL : MLibs w.heap.size w) (hDD : RdDoc w D cs) (hwD : dcW D ≤ 1048576) :
  Calls Tryz.prog 28 #[.agg cs.toArray] w (PWr w (mWrite D)) := by
 have hsm := dc_sm hwD
 have hri := box (fun w' (hb : Below w.heap.size w w') => pright_any D cs w' ((hL.on hb).up hb.size) (hDD.on hb) hsm)
 have htok := box (fun hr : mRight D => tell_ok hr hDD.dig hwD)
 obtain ⟨cf, eg, sj, nt, hC0, ⟨Ae, ne, ce, xe, hnce, hne', rfl, hre0, hEd0⟩, hS0, ⟨An, nq, cn, hnn0, hnq', rfl, hrn0⟩, rfl⟩ := hDD
 obtain ⟨hsm1, hsm2, hsC', ⟨hsE0, hsE'⟩, hsS', hsN⟩ := hsm
 have hcl := box hC0.len
 have hsl := box hS0.len
 have hdl := box (docL_len (m := D.media) (t := D.type) (eg := .slice Ae ne ce) (has := D.has) (nt := .slice An nq cn) hC0.len hS0.len)
 have hre := box hre0
 have hcf := box (fun w' (hb : Below w.heap.size w w') => ptold_any D.config cf w' (hC0.on hb) hsC'.2.1)
 have hsu := box (fun w' (hb : Below w.heap.size w w') => ptold_any D.subject sj w' (hS0.on hb) hsS'.2.1)
 obtain ⟨eds, hDe'⟩ : ∃ eds, D.edges = eds := ⟨_, rfl⟩
 rw [hDe'] at hne' hEd0 hsE' hsE0
 have hne6 : ne ≤ 1000000 := by omega
 have hDe := box hDe'
 have hEd := box hEd0
 have hne := box hne'
 have hsE := box hsE'
 have hnq := box hnq'
 have hnqb := box (show nq ≤ 1000000 by rw [hnq']; exact hsN.1)
 have hnr := box hrn0
 obtain ⟨m, hDm'⟩ : ∃ m, D.media = m := ⟨_, rfl⟩
 obtain ⟨ty, hDt'⟩ : ∃ ty, D.type = ty := ⟨_, rfl⟩
 obtain ⟨hs, hDh'⟩ : ∃ hs, D.has = hs := ⟨_, rfl⟩
 rw [hDm', hDt', hDh'] at hri hdl
 rw [hDm', hDt', hDh']
 have hDm := box hDm'
 have hDt := box hDt'
 have hDh := box hDh'
 clear hC0 hS0 hre0 hEd0 hne' hsC' hsS' hsE' hrn0 hnq' hsN hDe' hDm' hDt' hDh' hsm1 hsm2 hsE0 hwD
 have hF0 := Fr.nil w
 by_cases hrt' : mRight D
 rotate_left
 ·rw [decide_eq_false hrt'] at hri
  have hmw : Box (mWrite D = ([], 1)) := box (if_neg hrt')
  clear htok
  replace hrt' := box hrt'
  go_enter Tryz.func28, Tryz.ntmps28
  go_wp2_with (first | ((with_reducible refine lsx (wp_fbox hF0 (cs := (docL m ty cf (.slice Ae ne ce) sj hs (.slice An nq cn))) rfl (by with_unfolding_all rfl) (by with_unfolding_all rfl) ?_)); intro w1 g1 hF1 hz1) | (with_reducible refine lsx (wp_fldA0 hF1 Tryz.underlying31 rfl (by with_unfolding_all exact ⟨_, rfl, rfl⟩) (ds := (docL m ty cf (.slice Ae ne ce) sj hs (.slice An nq cn))) (by rw [hdl.out]; kernel_rfl) (take_all _) ?_)))
  refine (hri.out _ hF1.below).mono ?_
  rintro e w2 ⟨rfl, hb2⟩
  have hF2 := hF1.call hb2
  go_wp2_with fail
  go_ret2
  rw [hmw.out]
  exact PWr.nil hF2
 rw [decide_eq_true hrt'] at hri
 have hok := box (htok.out hrt')
 have hrt := box hrt'
 clear htok hrt'
 go_enter Tryz.func28, Tryz.ntmps28
 go_wp2_with (first | ((with_reducible refine lsx (wp_fbox hF0 (cs := (docL m ty cf (.slice Ae ne ce) sj hs (.slice An nq cn))) rfl (by with_unfolding_all rfl) (by with_unfolding_all rfl) ?_)); intro w1 g1 hF1 hz1) | (with_reducible refine lsx (wp_fldA0 hF1 Tryz.underlying31 rfl (by with_unfolding_all exact ⟨_, rfl, rfl⟩) (ds := (docL m ty cf (.slice Ae ne ce) sj hs (.slice An nq cn))) (by rw [hdl.out]; kernel_rfl) (take_all _) ?_)))
 refine (hri.out _ hF1.below).mono ?_
 rintro e w2 ⟨rfl, hb2⟩
 have hF2 := hF1.call hb2
 clear hF0 hF1 hri
 go_wp2_with (first | (with_reducible refine lsx (wp_fbuild Tryz.underlying76 (z := .agg (List.toArray vl0)) (by kernel_rfl) (pl := vlP) (by kernel_rfl) (cs := (vlL 6 0 ⟨#[]⟩ (.slice none 0 0) (.slice none 0 0))) rfl (vs := [(0, .int .i64 6)]) (by with_unfolding_all rfl) (by with_unfolding_all rfl) ?_)) | (with_reducible refine lsx (wp_fbuild Tryz.underlying116 (z := .agg (List.toArray vl0)) (by kernel_rfl) (pl := objP) (by kernel_rfl) (cs := (vlL 6 0 ⟨#[]⟩ (.slice none 0 0) (.slice none 0 0))) rfl (vs := [(0, .agg (vlL 6 0 ⟨#[]⟩ (.slice none 0 0) (.slice none 0 0)).toArray)]) (by with_unfolding_all rfl) (by with_unfolding_all rfl) ?_)) | ((with_reducible refine lsx (wp_falloc hF2 (cs := vl0) (z := .agg (List.toArray (vl0))) rfl (by kernel_rfl) (by with_unfolding_all rfl) ?_)); intro w3 g3 hF3 hz3) | ((with_reducible refine lsx (wp_fstA0 hF3 (by with_unfolding_all exact ⟨_, _, rfl, rfl, rfl⟩) (by rw [vlL_len]; kernel_rfl) vlL_one vlL_fit vlL_spl ?_)); intro w4 hF4 hz4) | (with_reducible refine lsx (wp_fbuild Tryz.underlying76 (z := .agg (List.toArray vl0)) (by kernel_rfl) (pl := vlP) (by kernel_rfl) (cs := (vlL 3 2 ⟨#[]⟩ (.slice none 0 0) (.slice none 0 0))) rfl (vs := [(0, .int .i64 3), (1, .int .i64 2)]) (by with_unfolding_all rfl) (by with_unfolding_all rfl) ?_)))
 have hG4 := (hF4.none_ w.heap.size 76 5).none_ w.heap.size 9 1
 clear hF2 hF3 hF4
 refine (oput_any (ns := []) kVersion (vlL 3 2 ⟨#[]⟩ (.slice none 0 0) (.slice none 0 0)) hG4 (by omega) (by omega) rfl vlL_one).mono ?_
 rintro e w5 ⟨A5, c5, B5, d5, hc5, hd5, rfl, hF5⟩
 clear hG4
 have hF := hF5.lfE
 have hT : Box (VTL ([(kVersion, jN 2)].map (fun x => x.2)) ([] ++ (vlL 3 2 ⟨#[]⟩ (.slice none 0 0) (.slice none 0 0))) ([] ++ tLf)) := box (VTL.snoc (v := jN 2) VTL.nil VT.leaf)
 clear hF5
 go_upto_region 5 with fail
 (try simp only [zP, zQ, zS, zZ, zN])
 go_cut [] (fun wx => OMid w g1 g3 2 (docL m ty cf (.slice Ae ne ce) sj hs (.slice An nq cn)) [(kVersion, jN 2), (kMedia, jT m)] wx)
 case first =>
  go_wp2_with (first | (with_reducible refine lsx (wp_fld3 hF Tryz.underlying9 rfl (by with_unfolding_all exact ⟨_, rfl, rfl⟩) docL_m0 ?_)))
  refine (otext_any kMedia m hF (by omega) (by omega)).mono ?_
  rintro e w9 ⟨A9, c9, B9, d9, hc9, hd9, rfl, hF9⟩
  go_wp2_with fail
  go_meet
  exact OMid.put (nn := 0 + 1) (ms := [(kVersion, jN 2)]) (s := kMedia) (v := jT m) rfl (by omega) hc9 hd9 hT.out VT.leaf hF9.lfE
 case rest =>
  clear hF hT
  obtain ⟨nn, A, c, B, d, ys, TE, hnn', hnb, hcc, hdd, hT', hF⟩ := hcut
  have hnn := box hnn'
  have hT := box hT'
  clear hnn' hT'
  go_step
  go_step
  (try simp only [zP, zQ, zS, zZ, zN])
  go_cut [] (fun wx => OMid w g1 g3 3 (docL m ty cf (.slice Ae ne ce) sj hs (.slice An nq cn)) ([(kVersion, jN 2), (kMedia, jT m)] ++ tType ty) wx)
  case first =>
   by_cases ht : ty = []
   ·have t1 : (ty == []) = true := by rw [beq_iff_eq]; exact ht
    have t2 : (ty != []) = false := by rw [bne, t1]; rfl
    have hty : Box (tType ty = []) := box (if_pos ht)
    replace ht := box ht
    go_wp2_with (first | (with_reducible refine lsx (wp_fld3 hF Tryz.underlying9 rfl (by with_unfolding_all exact ⟨_, rfl, rfl⟩) docL_t0 ?_)))
    go_meet
    rw [hty.out, List.append_nil]
    exact ⟨nn, A, c, B, d, ys, TE, hnn.out, by omega, hcc, hdd, hT.out, hF⟩
   ·have t1 : (ty == []) = false := by rw [beq_eq_false_iff_ne]; exact ht
    have t2 : (ty != []) = true := by rw [bne, t1]; rfl
    have hty : Box (tType ty = [(kType, jT ty)]) := box (if_neg ht)
    replace ht := box ht
    go_wp2_with (first | (with_reducible refine lsx (wp_fld3 hF Tryz.underlying9 rfl (by with_unfolding_all exact ⟨_, rfl, rfl⟩) docL_t0 ?_)))
    refine (otext_any kType ty hF (by omega) (by omega)).mono ?_
    rintro e w9 ⟨A9, c9, B9, d9, hc9, hd9, rfl, hF9⟩
    go_wp2_with fail
    go_meet
    rw [hty.out]
    exact OMid.put hnn.out (by omega) hc9 hd9 hT.out VT.leaf hF9.lfE
  case rest =>
   clear hF hT hnn
   obtain ⟨nn, A, c, B, d, ys, TE, hnn', hnb, hcc, hdd, hT', hF⟩ := hcut
   have hnn := box hnn'
   have hT := box hT'
   clear hnn' hT'
   go_step
   go_step
   (try simp only [zP, zQ, zS, zZ, zN])
   go_cut [5] (fun u5 wx => ∃ g8, u5 = .pointer (some ⟨g8, 0, none⟩) ∧ Fr [] w wx (.own w.heap.size 76 5 (.slice none 0 0) 0 [] :: .blk g8 76 (vlL 5 0 ⟨#[]⟩ (.slice none 0 0) (.slice none 0 0)) :: .own w.heap.size 9 1 (.slice A nn c) nn ((([(kVersion, jN 2), (kMedia, jT m)] ++ tType ty).map (fun x => x.1)).map strv) :: .own w.heap.size 76 5 (.slice B nn d) nn ys :: .blk g3 116 (vlL 6 0 ⟨#[]⟩ (.slice A nn c) (.slice B nn d)) :: .blk g1 31 (docL m ty cf (.slice Ae ne ce) sj hs (.slice An nq cn)) :: TE))
   case first =>
    go_wp2_with (first | (with_reducible refine lsx (wp_fbuild Tryz.underlying76 (z := .agg (List.toArray vl0)) (by kernel_rfl) (pl := vlP) (by kernel_rfl) (cs := (vlL 5 0 ⟨#[]⟩ (.slice none 0 0) (.slice none 0 0))) rfl (vs := [(0, .int .i64 5)]) (by with_unfolding_all rfl) (by with_unfolding_all rfl) ?_)) | ((with_reducible refine lsx (wp_falloc hF (cs := vl0) (z := .agg (List.toArray (vl0))) rfl (by kernel_rfl) (by with_unfolding_all rfl) ?_)); intro w8 g8 hF8 hz8) | ((with_reducible refine lsx (wp_fstA0 hF8 (by with_unfolding_all exact ⟨_, _, rfl, rfl, rfl⟩) (by rw [vlL_len]; kernel_rfl) vlL_one vlL_fit vlL_spl ?_)); intro w9 hF9 hz9))
    go_meet
    exact ⟨g8, rfl, hF9.none_ w.heap.size 76 5⟩
   case rest =>
    obtain ⟨g8, rfl, hF10⟩ := hcut
    clear hF
    go_step
    go_step
    (try simp only [zP, zQ, zS, zZ, zN])
    go_cut [] (fun wx => ∃ (AL : Option Addr) (cL : Nat) (zs : List Value) (LE : List Ent), ne ≤ cL ∧ VTL (eds.map tDesc) zs LE ∧ Fr [] w wx (.own w.heap.size 76 5 (.slice AL ne cL) ne zs :: .blk g8 76 (vlL 5 0 ⟨#[]⟩ (.slice none 0 0) (.slice AL ne cL)) :: .own w.heap.size 9 1 (.slice A nn c) nn ((([(kVersion, jN 2), (kMedia, jT m)] ++ tType ty).map (fun x => x.1)).map strv) :: .own w.heap.size 76 5 (.slice B nn d) nn ys :: .blk g3 116 (vlL 6 0 ⟨#[]⟩ (.slice A nn c) (.slice B nn d)) :: .blk g1 31 (docL m ty cf (.slice Ae ne ce) sj hs (.slice An nq cn)) :: (TE ++ LE)))
    case first =>
     go_wp2_with (first | (with_reducible refine lsx (wp_fld5 hF10 Tryz.underlying29 rfl (by with_unfolding_all exact ⟨_, rfl, rfl⟩) (docL_eg hcl.out) ?_)))
     go_loopg [30] ne (fun g iv wr => ∃ (i : Nat) (AL : Option Addr) (cL : Nat) (zs : List Value) (LE : List Ent), i ≤ ne ∧ Box (g = ne - i) ∧ iv = .int .i64 (i : Int) ∧ i ≤ cL ∧ Box (VTL ((eds.take i).map tDesc) zs LE) ∧ Fr [] w wr (.own w.heap.size 76 5 (.slice AL i cL) i zs :: .blk g8 76 (vlL 5 0 ⟨#[]⟩ (.slice none 0 0) (.slice AL i cL)) :: .own w.heap.size 9 1 (.slice A nn c) nn ((([(kVersion, jN 2), (kMedia, jT m)] ++ tType ty).map (fun x => x.1)).map strv) :: .own w.heap.size 76 5 (.slice B nn d) nn ys :: .blk g3 116 (vlL 6 0 ⟨#[]⟩ (.slice A nn c) (.slice B nn d)) :: .blk g1 31 (docL m ty cf (.slice Ae ne ce) sj hs (.slice An nq cn)) :: (TE ++ LE)))
     case atStart => exact ⟨0, none, 0, [], [], by omega, box rfl, rfl, Nat.le_refl _, box VTL.nil, by simpa using hF10⟩
     case round =>
      clear hF10
      obtain ⟨i, AL, cL, zs, LE, hi, hgi, rfl, hic, hTL, hF⟩ := hrel
      have hkk : Box (_ = ne - i) := hgi
      clear hgi
      have hre' := hre.out.below hF.below
      by_cases hlt : i < ne
      ·obtain ⟨x, hx'⟩ : ∃ x, eds[i]? = some x := ⟨eds[i]'(by rw [← hne.out]; exact hlt), by simp⟩
       have hxm := List.mem_of_getElem? hx'
       have hto := box (fun w' (hb : Below w.heap.size w w') => ptold_any x _ w' ((hEd.out i x hx').on hb) (hsE.out x hxm).2.1)
       have hx := box hx'
       have hxl := box (hEd.out i x hx').len
       have hxo := box (hEd.out i x hx').ones
       obtain ⟨ci, hce⟩ : ∃ ci, ci = (xe.drop (i * 35)).take 35 := ⟨_, rfl⟩
       rw [← hce] at hxl hto hxo
       replace hce := box hce.symm
       clear hx' hxm
       go_upto_region 12 with (first | (with_reducible refine lsx (wp_indexAddr T_descs hre' (by with_unfolding_all exact ⟨_, _, _, _, rfl, rfl, rfl⟩) (by omega) (by omega) ?_)) | (with_reducible refine lsx (wp_loadA hre' Tryz.underlying28 rfl (by with_unfolding_all exact ⟨_, rfl, rfl⟩) (ds := ci) (by rw [hxl.out]; kernel_rfl) (by rw [hxl.out]; with_unfolding_all exact hce.out) ?_)) | ((with_reducible refine lsx (wp_falloc hF (cs := ds0) (z := .agg (List.toArray (ds0))) rfl (by kernel_rfl) (by with_unfolding_all rfl) ?_)); intro w11 g11 hF11 hz11) | ((with_reducible refine lsx (wp_fstA0 hF11 (by with_unfolding_all exact ⟨_, _, rfl, rfl, rfl⟩) (by rw [hxl.out]; kernel_rfl) hxo.out (by rw [hxl.out, ds0_len]; decide) (spl_all (by rw [hxl.out, ds0_len])) ?_)); intro w12 hF12 hz12))
       have hFd := hF12.drew
       clear hF hF11 hF12
       refine wp_region_held (S := fun w' => w'.heap[g11]? = some (.cells (List.toArray ci) 28 (0, 0))) (by kernel_rfl) ?_
       change wpAnyH _ _ _ _ _ _ _ _ (World.drew _)
       refine tkp 0 (hFd.blk (i := 0) rfl) ?_
       (try simp only [zP, zQ, zS, zZ, zN])
       refine tky 2 (y := yi_fldA (by with_unfolding_all rfl) (fun _ h => h) Tryz.underlying28 rfl (by with_unfolding_all exact ⟨_, rfl, rfl⟩) (ds := ci) (by rw [hxl.out]; kernel_rfl) (take_all _)) (s := (hFd.blk (i := 0) rfl)) (h := ?_)
       (try simp only [zP, zQ, zS, zZ, zN])
       refine wpAnyH_ready (rs := [1, 3]) (by kernel_rfl) (by simp) ?_
       refine AllReadyH.cons (by simp only [List.getElem?_toArray, List.getElem?_cons_zero, List.getElem?_cons_succ]; rfl) (fun K hK => ?_) ?_
       ·refine stp (by with_unfolding_all rfl) (wp_fld hFd (i := 2) rfl Tryz.underlying74 rfl (by with_unfolding_all exact ⟨_, rfl, rfl⟩) rfl ?_)
        refine hK.out _ _ ((hFd.blk (i := 0) rfl)) (fun _ => ?_)
        clear hK K
        (try simp only [zP, zQ, zS, zZ, zN])
        refine rdy1 3 (fun K hK => ?_)
        refine stp (by with_unfolding_all rfl) (wp_call Tryz.func59 rfl (by with_unfolding_all rfl) (by with_unfolding_all rfl) (by with_unfolding_all rfl) (hto.out _ hFd.below) ?_)
        rintro e w31 ⟨cs31, es31, rfl, hvt31, hv31⟩
        refine ⟨_, rfl, ?_⟩
        have hF31 := hFd.joinR hv31
        simp only [List.cons_append] at hF31
        refine hK.out _ _ ((hF31.blk (i := 0) rfl)) (fun _ => ?_)
        clear hK K
        (try simp only [zP, zQ, zS, zZ, zN])
        refine rdy1 4 (fun K hK => ?_)
        refine stp (by with_unfolding_all rfl) (wp_fbs1 T_vals hF31 (by with_unfolding_all rfl) (ds := cs31) (by with_unfolding_all rfl) hvt31.len (by decide) ?_)
        intro w32 g32 hF32 hz32
        refine hK.out _ _ ((hF32.blk (i := 1) rfl)) (fun _ => ?_)
        clear hK K
        (try simp only [zP, zQ, zS, zZ, zN])
        refine rdy1 5 (fun K hK => ?_)
        refine stp (by with_unfolding_all rfl) (wp_fappG T_vals hF32 (i := 2) rfl (Nat.le_refl _) (hF32.rdOwn (i := 0) rfl) hvt31.one (by with_unfolding_all exact ⟨_, _, rfl, rfl, rfl⟩) (by unfold maxLen; omega) (by omega) ?_)
        intro v33 w33 hF33 hz33
        (try simp only [zZ, zN] at hF33)
        obtain ⟨A33, c33, rfl, hc33⟩ := hF33.ownParts (i := 2) rfl
        refine hK.out _ _ ((hF33.blk (i := 1) rfl)) (fun _ => ?_)
        clear hK K
        (try simp only [zP, zQ, zS, zZ, zN])
        refine tkp 6 (hF33.blk (i := 1) rfl) ?_
        (try simp only [zP, zQ, zS, zZ, zN])
        refine rdy1 7 (fun K hK => ?_)
        refine stp (by with_unfolding_all rfl) (wp_fst hF33 (i := 3) rfl (v := .slice A33 (i + 1) c33) (by with_unfolding_all exact ⟨_, _, rfl, rfl, rfl⟩) (by kernel_rfl) rfl rfl (by rw [vlL_len]; decide) ?_)
        intro w34 hF34 hz34
        (try simp only [zZ, zN] at hF34)
        rw [(vlL_4 (k := 5) (n := 0) (t := ⟨#[]⟩) (a := (.slice none 0 0)) (b := .slice AL i cL))] at hF34
        refine hK.out _ _ ((hF34.blk (i := 1) rfl)) (fun _ => ?_)
        clear hK K
        (try simp only [zP, zQ, zS, zZ, zN])
        refine wpAnyH_done (by kernel_rfl) ?_ _
        go_wp2_with fail
        go_roundg (ne - (i + 1))
        case rel => exact ⟨i + 1, A33, c33, zs ++ cs31, LE ++ es31, by omega, box rfl, by go_num, hc33, box (by rw [take_snoc1 hx.out, List.map_append]; exact hTL.out.snoc hvt31), by have h := hF34.tail.tail; simpa using h⟩
        case measure => have := hkk.out; omega
       refine AllReadyH.cons (by simp only [List.getElem?_toArray, List.getElem?_cons_zero, List.getElem?_cons_succ]; rfl) (fun K hK => ?_) ?_
       ·refine stp (by with_unfolding_all rfl) (wp_call Tryz.func59 rfl (by with_unfolding_all rfl) (by with_unfolding_all rfl) (by with_unfolding_all rfl) (hto.out _ hFd.below) ?_)
        rintro e w31 ⟨cs31, es31, rfl, hvt31, hv31⟩
        refine ⟨_, rfl, ?_⟩
        have hF31 := hFd.joinR hv31
        simp only [List.cons_append] at hF31
        refine hK.out _ _ ((hF31.blk (i := 0) rfl)) (fun _ => ?_)
        clear hK K
        (try simp only [zP, zQ, zS, zZ, zN])
        refine wpAnyH_ready (rs := [1, 4]) (by kernel_rfl) (by simp) ?_
        refine AllReadyH.cons (by simp only [List.getElem?_toArray, List.getElem?_cons_zero, List.getElem?_cons_succ]; rfl) (fun K hK => ?_) ?_
        ·refine stp (by with_unfolding_all rfl) (wp_fld hF31 (i := 2) rfl Tryz.underlying74 rfl (by with_unfolding_all exact ⟨_, rfl, rfl⟩) rfl ?_)
         refine hK.out _ _ ((hF31.blk (i := 0) rfl)) (fun _ => ?_)
         clear hK K
         (try simp only [zP, zQ, zS, zZ, zN])
         refine rdy1 4 (fun K hK => ?_)
         refine stp (by with_unfolding_all rfl) (wp_fbs1 T_vals hF31 (by with_unfolding_all rfl) (ds := cs31) (by with_unfolding_all rfl) hvt31.len (by decide) ?_)
         intro w32 g32 hF32 hz32
         refine hK.out _ _ ((hF32.blk (i := 1) rfl)) (fun _ => ?_)
         clear hK K
         (try simp only [zP, zQ, zS, zZ, zN])
         refine rdy1 5 (fun K hK => ?_)
         refine stp (by with_unfolding_all rfl) (wp_fappG T_vals hF32 (i := 2) rfl (Nat.le_refl _) (hF32.rdOwn (i := 0) rfl) hvt31.one (by with_unfolding_all exact ⟨_, _, rfl, rfl, rfl⟩) (by unfold maxLen; omega) (by omega) ?_)
         intro v33 w33 hF33 hz33
         (try simp only [zZ, zN] at hF33)
         obtain ⟨A33, c33, rfl, hc33⟩ := hF33.ownParts (i := 2) rfl
         refine hK.out _ _ ((hF33.blk (i := 1) rfl)) (fun _ => ?_)
         clear hK K
         (try simp only [zP, zQ, zS, zZ, zN])
         refine tkp 6 (hF33.blk (i := 1) rfl) ?_
         (try simp only [zP, zQ, zS, zZ, zN])
         refine rdy1 7 (fun K hK => ?_)
         refine stp (by with_unfolding_all rfl) (wp_fst hF33 (i := 3) rfl (v := .slice A33 (i + 1) c33) (by with_unfolding_all exact ⟨_, _, rfl, rfl, rfl⟩) (by kernel_rfl) rfl rfl (by rw [vlL_len]; decide) ?_)
         intro w34 hF34 hz34
         (try simp only [zZ, zN] at hF34)
         rw [(vlL_4 (k := 5) (n := 0) (t := ⟨#[]⟩) (a := (.slice none 0 0)) (b := .slice AL i cL))] at hF34
         refine hK.out _ _ ((hF34.blk (i := 1) rfl)) (fun _ => ?_)
         clear hK K
         (try simp only [zP, zQ, zS, zZ, zN])
         refine wpAnyH_done (by kernel_rfl) ?_ _
         go_wp2_with fail
         go_roundg (ne - (i + 1))
         case rel => exact ⟨i + 1, A33, c33, zs ++ cs31, LE ++ es31, by omega, box rfl, by go_num, hc33, box (by rw [take_snoc1 hx.out, List.map_append]; exact hTL.out.snoc hvt31), by have h := hF34.tail.tail; simpa using h⟩
         case measure => have := hkk.out; omega
        refine AllReadyH.cons (by simp only [List.getElem?_toArray, List.getElem?_cons_zero, List.getElem?_cons_succ]; rfl) (fun K hK => ?_) ?_
        ·refine stp (by with_unfolding_all rfl) (wp_fbs1 T_vals hF31 (by with_unfolding_all rfl) (ds := cs31) (by with_unfolding_all rfl) hvt31.len (by decide) ?_)
         intro w32 g32 hF32 hz32
         refine hK.out _ _ ((hF32.blk (i := 1) rfl)) (fun _ => ?_)
         clear hK K
         (try simp only [zP, zQ, zS, zZ, zN])
         refine rdy1 1 (fun K hK => ?_)
         refine stp (by with_unfolding_all rfl) (wp_fld hF32 (i := 3) rfl Tryz.underlying74 rfl (by with_unfolding_all exact ⟨_, rfl, rfl⟩) rfl ?_)
         refine hK.out _ _ ((hF32.blk (i := 1) rfl)) (fun _ => ?_)
         clear hK K
         (try simp only [zP, zQ, zS, zZ, zN])
         refine rdy1 5 (fun K hK => ?_)
         refine stp (by with_unfolding_all rfl) (wp_fappG T_vals hF32 (i := 2) rfl (Nat.le_refl _) (hF32.rdOwn (i := 0) rfl) hvt31.one (by with_unfolding_all exact ⟨_, _, rfl, rfl, rfl⟩) (by unfold maxLen; omega) (by omega) ?_)
         intro v33 w33 hF33 hz33
         (try simp only [zZ, zN] at hF33)
         obtain ⟨A33, c33, rfl, hc33⟩ := hF33.ownParts (i := 2) rfl
         refine hK.out _ _ ((hF33.blk (i := 1) rfl)) (fun _ => ?_)
         clear hK K
         (try simp only [zP, zQ, zS, zZ, zN])
         refine tkp 6 (hF33.blk (i := 1) rfl) ?_
         (try simp only [zP, zQ, zS, zZ, zN])
         refine rdy1 7 (fun K hK => ?_)
         refine stp (by with_unfolding_all rfl) (wp_fst hF33 (i := 3) rfl (v := .slice A33 (i + 1) c33) (by with_unfolding_all exact ⟨_, _, rfl, rfl, rfl⟩) (by kernel_rfl) rfl rfl (by rw [vlL_len]; decide) ?_)
         intro w34 hF34 hz34
         (try simp only [zZ, zN] at hF34)
         rw [(vlL_4 (k := 5) (n := 0) (t := ⟨#[]⟩) (a := (.slice none 0 0)) (b := .slice AL i cL))] at hF34
         refine hK.out _ _ ((hF34.blk (i := 1) rfl)) (fun _ => ?_)
         clear hK K
         (try simp only [zP, zQ, zS, zZ, zN])
         refine wpAnyH_done (by kernel_rfl) ?_ _
         go_wp2_with fail
         go_roundg (ne - (i + 1))
         case rel => exact ⟨i + 1, A33, c33, zs ++ cs31, LE ++ es31, by omega, box rfl, by go_num, hc33, box (by rw [take_snoc1 hx.out, List.map_append]; exact hTL.out.snoc hvt31), by have h := hF34.tail.tail; simpa using h⟩
         case measure => have := hkk.out; omega
        exact AllReadyH.nil
       exact AllReadyH.nil
      ·obtain rfl : ne = i := by omega
       have htk : eds.take ne = eds := by rw [hne.out]; exact List.take_length
       rw [htk] at hTL
       clear htk
       go_wp2_with fail
       go_meet
       exact ⟨AL, cL, zs, LE, hic, hTL.out, hF⟩
    case rest =>
     obtain ⟨AL, cL, zs, LE, hic, hTL', hF⟩ := hcut
     have hTL := box hTL'
     clear hTL' hF10
     go_step
     go_step
     (try simp only [zP, zQ, zS, zZ, zN])
     go_cut [] (fun wx => OMid w g1 g3 5 (docL m ty cf (.slice Ae ne ce) sj hs (.slice An nq cn)) (([(kVersion, jN 2), (kMedia, jT m)] ++ tType ty) ++ tMain D) wx)
     case first =>
      have hG := ((hF.toRd (i := 0) rfl).pushNone 1).perm (es' := .own w.heap.size 9 1 (.slice A nn c) nn ((([(kVersion, jN 2), (kMedia, jT m)] ++ tType ty).map (fun x => x.1)).map strv) :: .own w.heap.size 76 5 (.slice B nn d) nn ys :: .blk g3 116 (vlL 6 0 ⟨#[]⟩ (.slice A nn c) (.slice B nn d)) :: .blk g1 31 (docL m ty cf (.slice Ae ne ce) sj hs (.slice An nq cn)) :: .blk g8 76 (vlL 5 0 ⟨#[]⟩ (.slice none 0 0) (.slice AL ne cL)) :: (TE ++ (.rd none 1 0 [] :: .rd AL 5 ne zs :: LE))) (by
       simp only [List.set_cons_zero]
       exact lpermO _ _ _ _ _ _ _ _ _)
      have hVL : VT (jL (eds.map tDesc)) (vlL 5 0 ⟨#[]⟩ (.slice none 0 0) (.slice AL ne cL)) (.rd none 1 0 [] :: .rd AL 5 ne zs :: LE) := VT.mk_ (ns := []) (t := []) (Nat.le_refl _) hic hTL.out
      clear hF
      by_cases hi : m = sImage
      ·skip
       have e1 : (m == [97, 112, 112, 108, 105, 99, 97, 116, 105, 111, 110, 47, 118, 110, 100, 46, 111, 99, 105, 46, 105, 109, 97, 103, 101, 46, 109, 97, 110, 105, 102, 101, 115, 116, 46, 118, 49, 43, 106, 115, 111, 110]) = true := by rw [beq_iff_eq]; exact hi
       have hmn : Box (tMain D = [(kConfig, tDesc D.config), (kLayers, jL (eds.map tDesc))]) := box (by unfold tMain; rw [hDm.out, if_pos hi, hDe.out])
       replace hi := box hi
       go_wp2_with (first | (with_reducible refine lsx (wp_fld3 hG Tryz.underlying9 rfl (by with_unfolding_all exact ⟨_, rfl, rfl⟩) docL_m0 ?_)) | (with_reducible refine lsx (wp_fldA3 hG Tryz.underlying28 rfl (by with_unfolding_all exact ⟨_, rfl, rfl⟩) (ds := cf) (by rw [hcl.out]; kernel_rfl) (by rw [hcl.out]; exact docL_cf hcl.out) ?_)))
       refine (hcf.out _ hG.below).mono ?_
       rintro e w50 ⟨cs50, es50, rfl, hvt50, h50⟩
       have hF50 := hG.joinR h50
       simp only [List.cons_append] at hF50
       have hVT50 := box hvt50
       have hl50 := hvt50.len
       have ho50 := box hvt50.one
       clear hvt50 h50 hG
       go_wp2_with fail
       refine (oput_any kConfig cs50 hF50 (by omega) (by omega) hl50 ho50.out).mono ?_
       rintro e w51 ⟨A51, c51, B51, d51, hc51, hd51, rfl, hF51⟩
       clear hF50
       go_wp2_with (first | (with_reducible refine lsx (wp_fldA4 hF51 Tryz.underlying76 rfl (by with_unfolding_all exact ⟨_, rfl, rfl⟩) (ds := (vlL 5 0 ⟨#[]⟩ (.slice none 0 0) (.slice AL ne cL))) (by rw [vlL_len]; kernel_rfl) (take_all _) ?_)))
       refine (oput_any kLayers (vlL 5 0 ⟨#[]⟩ (.slice none 0 0) (.slice AL ne cL)) hF51 (by omega) (by omega) rfl vlL_one).mono ?_
       rintro e w60 ⟨A60, c60, B60, d60, hc60, hd60, rfl, hF60⟩
       clear hF51
       go_wp2_with fail
       go_meet
       rw [hmn.out]
       have hH := (hF60.sub (List.Sublist.cons_cons _ (List.Sublist.cons_cons _ (List.Sublist.cons_cons _ (List.Sublist.cons_cons _ (List.Sublist.cons _ (List.Sublist.refl _))))))).perm (List.Perm.cons _ (List.Perm.cons _ (List.Perm.cons _ (List.Perm.cons _ (permTail TE (.rd none 1 0 [] :: .rd AL 5 ne zs :: LE) es50)))))
       have em : (([(kVersion, jN 2), (kMedia, jT m)] ++ tType ty) ++ [(kConfig, tDesc D.config)]).map (fun x : List UInt8 × JV => x.1) = ([(kVersion, jN 2), (kMedia, jT m)] ++ tType ty).map (fun x => x.1) ++ [kConfig] := by rw [List.map_append]; rfl
       have hM := OMid.put (b := 5) (ms := ([(kVersion, jN 2), (kMedia, jT m)] ++ tType ty) ++ [(kConfig, tDesc D.config)]) (s := kLayers) (v := jL (eds.map tDesc)) (nn := nn + 1) (by rw [List.length_append, hnn.out]; rfl) (by omega) hc60 hd60 (by rw [List.map_append]; exact hT.out.snoc hVT50.out) hVL (by rw [em]; exact hH)
       rw [List.append_assoc] at hM
       exact hM
      ·skip
       have e1 : (m == [97, 112, 112, 108, 105, 99, 97, 116, 105, 111, 110, 47, 118, 110, 100, 46, 111, 99, 105, 46, 105, 109, 97, 103, 101, 46, 109, 97, 110, 105, 102, 101, 115, 116, 46, 118, 49, 43, 106, 115, 111, 110]) = false := by rw [beq_eq_false_iff_ne]; exact hi
       have hmn : Box (tMain D = [(kManifests, jL (eds.map tDesc))]) := box (by unfold tMain; rw [hDm.out, if_neg hi, hDe.out])
       replace hi := box hi
       go_wp2_with (first | (with_reducible refine lsx (wp_fld3 hG Tryz.underlying9 rfl (by with_unfolding_all exact ⟨_, rfl, rfl⟩) docL_m0 ?_)) | (with_reducible refine lsx (wp_fldA4 hG Tryz.underlying76 rfl (by with_unfolding_all exact ⟨_, rfl, rfl⟩) (ds := (vlL 5 0 ⟨#[]⟩ (.slice none 0 0) (.slice AL ne cL))) (by rw [vlL_len]; kernel_rfl) (take_all _) ?_)))
       refine (oput_any kManifests (vlL 5 0 ⟨#[]⟩ (.slice none 0 0) (.slice AL ne cL)) hG (by omega) (by omega) rfl vlL_one).mono ?_
       rintro e w60 ⟨A60, c60, B60, d60, hc60, hd60, rfl, hF60⟩
       go_wp2_with fail
       go_meet
       rw [hmn.out]
       exact OMid.put hnn.out (by omega) hc60 hd60 hT.out hVL (hF60.sub (List.Sublist.cons_cons _ (List.Sublist.cons_cons _ (List.Sublist.cons_cons _ (List.Sublist.cons_cons _ (List.Sublist.cons _ (List.Sublist.refl _)))))))
     case rest =>
      clear hF hT hnn hTL
      obtain ⟨nn, A, c, B, d, ys, TE, hnn', hnb, hcc, hdd, hT', hF⟩ := hcut
      have hnn := box hnn'
      have hT := box hT'
      clear hnn' hT'
      go_step
      go_step
      (try simp only [zP, zQ, zS, zZ, zN])
      go_cut [] (fun wx => OMid w g1 g3 6 (docL m ty cf (.slice Ae ne ce) sj hs (.slice An nq cn)) ((([(kVersion, jN 2), (kMedia, jT m)] ++ tType ty) ++ tMain D) ++ tSubj D) wx)
      case first =>
       cases hs with
       | false =>
        have hsb : Box (tSubj D = []) := box (if_neg (by rw [hDh.out]; decide))
        go_wp2_with (first | (with_reducible refine lsx (wp_fld3 hF Tryz.underlying4 rfl (by with_unfolding_all exact ⟨_, rfl, rfl⟩) (docL_has hcl.out hsl.out) ?_)))
        go_meet
        rw [hsb.out, List.append_nil]
        exact ⟨nn, A, c, B, d, ys, TE, hnn.out, by omega, hcc, hdd, hT.out, hF⟩
       | true =>
        have hsb : Box (tSubj D = [(kSubject, tDesc D.subject)]) := box (if_pos hDh.out)
        go_wp2_with (first | (with_reducible refine lsx (wp_fld3 hF Tryz.underlying4 rfl (by with_unfolding_all exact ⟨_, rfl, rfl⟩) (docL_has hcl.out hsl.out) ?_)) | (with_reducible refine lsx (wp_fldA3 hF Tryz.underlying28 rfl (by with_unfolding_all exact ⟨_, rfl, rfl⟩) (ds := sj) (by rw [hsl.out]; kernel_rfl) (by rw [hsl.out]; exact docL_sj hcl.out hsl.out) ?_)))
        refine (hsu.out _ hF.below).mono ?_
        rintro e w50 ⟨cs50, es50, rfl, hvt50, h50⟩
        have hF50 := hF.joinR h50
        simp only [List.cons_append] at hF50
        have hVT50 := box hvt50
        have hl50 := hvt50.len
        have ho50 := box hvt50.one
        clear hvt50 h50 hF
        go_wp2_with fail
        refine (oput_any kSubject cs50 hF50 (by omega) (by omega) hl50 ho50.out).mono ?_
        rintro e w51 ⟨A51, c51, B51, d51, hc51, hd51, rfl, hF51⟩
        clear hF50
        go_wp2_with fail
        go_meet
        rw [hsb.out]
        exact OMid.put hnn.out (by omega) hc51 hd51 hT.out hVT50.out hF51
      case rest =>
       clear hF hT hnn
       obtain ⟨nn, A, c, B, d, ys, TE, hnn', hnb, hcc, hdd, hT', hF⟩ := hcut
       have hnn := box hnn'
       have hT := box hT'
       clear hnn' hT'
       go_wp2_with (first | (with_reducible refine lsx (wp_fld3 hF Tryz.underlying26 rfl (by with_unfolding_all exact ⟨_, rfl, rfl⟩) (docL_nt hcl.out hsl.out) ?_)))
       refine (onotes_any D.notes An nq cn hF (by omega) (by omega) hcc hdd hnq.out hnqb.out hnr.out).mono ?_
       rintro e w70 ⟨A70, c70, B70, d70, zs2, E2, hc70, hd70, rfl, hz, hF70⟩
       clear hF
       have hG := ((hF70.toRd (i := 0) rfl).toRd (i := 1) rfl)
       simp only [zZ, zN] at hG
       have hG2 := hG.sub (List.Sublist.cons_cons _ (List.Sublist.cons_cons _ (List.Sublist.cons _ (List.Sublist.cons _ (List.Sublist.refl (TE ++ E2))))))
       have e1 : mTell D = .mk 6 0 [] ((((([(kVersion, jN 2), (kMedia, jT m)] ++ tType ty) ++ tMain D) ++ tSubj D) ++ tWith D.notes).map (fun x => x.1)) ((((([(kVersion, jN 2), (kMedia, jT m)] ++ tType ty) ++ tMain D) ++ tSubj D) ++ tWith D.notes).map (fun x => x.2)) := by
        unfold mTell tMems
        rw [hDm.out, hDt.out]
        simp only [List.append_assoc]
        rfl
       have e2 : (((([(kVersion, jN 2), (kMedia, jT m)] ++ tType ty) ++ tMain D) ++ tSubj D) ++ tWith D.notes).map (fun x => x.1) = ((([(kVersion, jN 2), (kMedia, jT m)] ++ tType ty) ++ tMain D) ++ tSubj D).map (fun x => x.1) ++ (tWith D.notes).map (fun x => x.1) := List.map_append
       have e3 : (((([(kVersion, jN 2), (kMedia, jT m)] ++ tType ty) ++ tMain D) ++ tSubj D) ++ tWith D.notes).map (fun x => x.2) = ((([(kVersion, jN 2), (kMedia, jT m)] ++ tType ty) ++ tMain D) ++ tSubj D).map (fun x => x.2) ++ (tWith D.notes).map (fun x => x.2) := List.map_append
       rw [e2, e3] at e1
       have hvt := VT.mk_ (k := 6) (n := 0) (t := []) (An := A70) (Ak := B70) (ns := ((([(kVersion, jN 2), (kMedia, jT m)] ++ tType ty) ++ tMain D) ++ tSubj D).map (fun x => x.1) ++ (tWith D.notes).map (fun x => x.1)) hc70 hd70 (VTL.app hT.out hz)
       rw [← e1] at hvt
       have hvr := hvt.rdF hG2 (fun e he => he)
       clear hG hvt e1 e2 e3 hz
       have hwr := box (write_F hG2 ((hL.on hG2.below).up hG2.below.size).j (Nat.le_refl _) hvr hok.out.sm hok.out.tx hok.out.fl)
       clear hvr
       go_wp2_with (first | (with_reducible refine lsx (wp_fldA2 hF70 Tryz.underlying76 rfl (by with_unfolding_all exact ⟨_, rfl, rfl⟩) (ds := (vlL 6 0 ⟨#[]⟩ (.slice A70 (nn + (tWith D.notes).length) c70) (.slice B70 (nn + (tWith D.notes).length) d70))) (by rw [vlL_len]; kernel_rfl) (take_all _) ?_)))
       refine hwr.out.mono ?_
       rintro e w80 ⟨A80, n80, c80, rfl, hn80, hc80, hF80⟩
       clear hwr hF70 hG2
       obtain ⟨⟨l, f⟩, hR⟩ : ∃ R, R = jWrite (mTell D) := ⟨_, rfl⟩
       rw [← hR] at hn80 hF80 ⊢
       simp only [] at hn80 hF80
       replace hn80 := box hn80
       by_cases hf : f = 0
       ·subst hf
        have hmw : Box (mWrite D = (l, 0)) := box (by unfold mWrite; rw [if_pos hrt.out, ← hR]; rfl)
        replace hR := box hR
        go_wp2_with fail
        go_ret2
        rw [hmw.out]
        exact ⟨A80, n80, c80, rfl, hn80.out, hc80, hF80.sub (List.Sublist.cons_cons _ (List.nil_sublist _))⟩
       ·have hne : ((f : Int) != 0) = true := by rw [bne_iff_ne]; omega
        have hmw : Box (mWrite D = ([], 8)) := box (by unfold mWrite; rw [if_pos hrt.out, ← hR]; exact if_neg hf)
        replace hR := box hR
        replace hf := box hf
        go_wp2_with fail
        go_ret2
        rw [hmw.out]
        exact PWr.nil hF80
end Go.Proofs.YtlhicfpmlncomaaGreatDoor

namespace Go.Proofs.YtlhicfpmlncomaaGreatDoor
open Go.RowKit
end Go.Proofs.YtlhicfpmlncomaaGreatDoor

namespace Go.Proofs.YtlhicfpmlncomaaGreatDoor
open Go.RowKit
set_option linter.unusedSimpArgs false
end Go.Proofs.YtlhicfpmlncomaaGreatDoor

namespace Go.Proofs.YtlhicfpmlncomaaGreatDoor
open Go.RowKit
set_option linter.unusedSimpArgs false
end Go.Proofs.YtlhicfpmlncomaaGreatDoor

namespace Go.Proofs.YtlhicfpmlncomaaGreatDoor
open Go.RowKit
set_option linter.unusedSimpArgs false
mutual
/-- A value that the document may write: its kinds, its numbers, its members' names. -/
def JOk2 : JV → Prop
 | .mk k n _ ns ks => (k = 0 ∨ k = 1 ∨ k = 2 ∨ (k = 3 ∧ -9007199254740991 ≤ n ∧ n ≤ 9007199254740991) ∨ k = 4) ∨ (k = 5 ∧ JOk2L ks) ∨ (k = 6 ∧ ns.length = ks.length ∧ JOk2L ks)
def JOk2L : List JV → Prop
 | [] => True
 | v :: vs => JOk2 v ∧ JOk2L vs
end
theorem JOk2L.at : ∀ {ks : List JV} {i : Nat} {v : JV}, JOk2L ks → ks[i]? = some v → JOk2 v
 | [], _, _, _, hv => by cases hv
 | k :: ks, i, v, h, hv => by
  rw [JOk2L] at h
  cases i with
  | zero => injection hv with hv; subst hv; exact h.1
  | succ i => exact JOk2L.at h.2 (by simpa using hv)
end Go.Proofs.YtlhicfpmlncomaaGreatDoor

namespace Go.Proofs.YtlhicfpmlncomaaGreatDoor
open Go.RowKit
set_option linter.unusedSimpArgs false
end Go.Proofs.YtlhicfpmlncomaaGreatDoor

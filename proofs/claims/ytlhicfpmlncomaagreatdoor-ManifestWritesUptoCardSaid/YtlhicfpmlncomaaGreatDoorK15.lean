/-
 Layer 6: a value that came in. No program is named here.
 Layer 6: the walk of the program's Write.
 Layer 6, plain words: how many values a value has; which values are right, as the document counts it. No program is named here.
 Layer 6, plain law: texts that are read are texts. No program is named here.
 Layer 6, plain law: what is read is right, bare, and not too long when it is written. No program is named here.
 Layer 6, plain law: a text that is written is read as that text. No program is named here.
 Layer 6, plain law: a value that is written is read as that value. No program is named here.
 Layer 6, plain law: lists and objects that are written are read as themselves. No program is named here.
 Layer 6, plain law: what is written of a bare value that is right is read as that value. No program is named here.
 Layer 6, plain law: a value that is right is no deeper than it may be. No program is named here.
 Layer 6, plain words: a value without what isn't written. No program is named here.
 Layer 8, plain words: which documents may be written, and as which value; what is written is read as that document. No program is named here.
 Layer 7: the walks of the document's IsMedia.
 Layer 8: the document's media, walked.
 Two structs compared, field by field: whole numbers, texts, yes-or-no, arrays of bytes. No program is named here.
 Layer 8: the document's notes, walked.
 Layer 8: the document's withNotes, walked.
-/
import Derived.Test.YtlhicfpmlncomaaGreatDoorK11
import Derived.Test.YtlhicfpmlncomaaGreatDoorK14
import Derived.Test.YtlhicfpmlncomaaGreatDoorK12
import Derived.Test.YtlhicfpmlncomaaGreatDoorK02
import Derived.Lib.ValidLaws
import Derived.Test.YtlhicfpmlncomaaGreatDoorK08
import Derived.Laws.StructEq
import Derived.Test.YtlhicfpmlncomaaGreatDoorK09
import Derived.Test.YtlhicfpmlncomaaGreatDoorK00
set_option linter.unusedSimpArgs false
set_option linter.unusedVariables false
namespace Go.Proofs.YtlhicfpmlncomaaGreatDoor
open Go.ChangeShapes Go.WideShapes Go.ChangeAt Go.RowKit
mutual
def jW : JV → Nat
 | .mk _ _ t ns ks => t.length + (ns.map (·.length + 1)).sum + jWL ks + 1
def jWL : List JV → Nat
 | [] => 0
 | v :: vs => jW v + jWL vs
end
mutual
def JI : JV → Prop
 | .mk k n _ _ ks => (-9223372036854775808 ≤ k ∧ k ≤ 9223372036854775807) ∧ (-9223372036854775808 ≤ n ∧ n ≤ 9223372036854775807) ∧ JIL ks
def JIL : List JV → Prop
 | [] => True
 | v :: vs => JI v ∧ JIL vs
end
theorem jWn_mem : ∀ {ns : List (List UInt8)} {s : List UInt8}, s ∈ ns → s.length + 1 ≤ (ns.map (·.length + 1)).sum
 | [], _, h => by cases h
 | n :: ns, s, h => by
  rw [List.map_cons, List.sum_cons]
  rcases List.mem_cons.1 h with rfl | h
  ·omega
  ·have := jWn_mem h; omega
theorem jWn_tail (ns : List (List UInt8)) : (ns.headD []).length + (ns.tail.map (·.length + 1)).sum ≤ (ns.map (·.length + 1)).sum := by
 cases ns with
 | nil => simp
 | cons n ns => simp [List.sum_cons]; try omega
mutual
theorem jW_full : ∀ (v : JV), JI v → (jFull v).length + 4 ≤ 30 * jW v
 | .mk k n t ns ks, h => by
  rw [JI] at h
  have hq := jQuote_len t
  have hi := itoa_len h.2.1.1 h.2.1.2
  have h5 := jWL_full ks true false ns h.2.2
  have h6 := jWL_full ks false false ns h.2.2
  rw [jFull, jW]
  split
  ·simp; omega
  split
  ·simp; omega
  split
  ·simp; omega
  split
  ·omega
  split
  ·omega
  split
  ·simp only [List.length_append, List.length_cons, List.length_nil]; omega
  ·simp only [List.length_append, List.length_cons, List.length_nil]; omega
theorem jWL_full : ∀ (ks : List JV) (obj more : Bool) (ns : List (List UInt8)), JIL ks → (jFullL obj more ns ks).length ≤ 30 * jWL ks + 6 * (ns.map (·.length + 1)).sum
 | [], obj, more, ns, _ => by rw [jFullL]; simp
 | v :: vs, obj, more, ns, h => by
  rw [JIL] at h
  have h1 := jW_full v h.1
  have h2 := jWL_full vs obj true ns.tail h.2
  have h3 := jQuote_len (ns.headD [])
  have h4 := jWn_tail ns
  rw [jFullL, jWL]
  have hp : 1 ≤ jW v := by cases v; rw [jW]; omega
  simp only [List.length_append]
  have e1 : (if more = true then [(44 : UInt8)] else []).length ≤ 1 := by split <;> simp
  have e2 : (if obj = true then jQuote (ns.headD []) ++ [58] else []).length ≤ 6 * (ns.headD []).length + 3 := by
   split
   ·simp only [List.length_append, List.length_cons, List.length_nil]; omega
   ·simp
  omega
end
theorem sum_le {α : Type} {H : Type} {g : α → Nat} : ∀ (l : List α) (es : List (DataW H × List MemPlace)), l.length = es.length → (∀ (i : Nat) (u : α) (e : DataW H × List MemPlace), l[i]? = some u → es[i]? = some e → g u ≤ Rows.uptoBulk e.1) → (l.map g).sum ≤ Rows.uptoBulkAll (es.map (·.1))
 | [], [], _, _ => by simp [Rows.uptoBulkAll]
 | u :: l, e :: es, hl, h => by
  have h0 := h 0 u e rfl rfl
  have h1 := sum_le (g := g) l es (by simpa using hl) (fun i u e hu he => h (i + 1) u e (by simpa using hu) (by simpa using he))
  simp only [List.map_cons, List.sum_cons, Rows.uptoBulkAll]
  omega
 | [], _ :: _, hl, _ => by simp at hl
 | _ :: _, [], hl, _ => by simp at hl
section
variable {H : Type} {enc : TypeId × Value → H} {P : Program} {W : World} {hd : Bool} {fuel : Nat}
theorem slR_in {α : Type} {t e : TypeId} {sz : Nat} (ht : P.underlying t = some (.slice e)) (hc : P.cellsOf e = sz) (hpos : 0 < sz) {f : α → List Value} {g : α → Nat} {p : α → Prop} (hel : ∀ m cs x, m < fuel → DataW.trod enc P W 0 (fun _ => true) hd m e cs = some x → ∃ u : α, cs = f u ∧ (f u).length = sz ∧ p u ∧ g u ≤ Rows.uptoBulk x.1)
  {cs : List Value} {x : DataW H × List MemPlace} (h : DataW.trod enc P W 0 (fun _ => true) hd fuel t cs = some x) :
  ∃ (A : Option Addr) (len cap : Nat) (l : List α), cs = [.slice A len cap] ∧ len ≤ cap ∧ l.length = len ∧ Rd W (· < W.heap.size) A sz len (l.flatMap f) ∧ (∀ u ∈ l, (f u).length = sz ∧ p u) ∧ (l.map g).sum + 1 ≤ Rows.uptoBulk x.1 := by
 rcases DataW.trod_slice ht h with ⟨hcs, hx⟩ | ⟨a, len, cap, es, rest, n, hfu, hcs, hx, _, hl, hm, hlen, hat, hsp, _⟩
 ·exact ⟨none, 0, 0, [], hcs, Nat.le_refl _, rfl, Rd.nil _ _ _ _, fun u hu => by simp at hu, by rw [hx]; simp [Rows.uptoBulk]⟩
 ·have key : ∀ i, i < len → ∃ u : α, W.cells? 0 (a.add (i * sz)) sz = some (f u) ∧ (f u).length = sz ∧ p u ∧ ∀ e, es[i]? = some e → g u ≤ Rows.uptoBulk e.1 := fun i hi => by
   have h1 := hat i hi
   rw [hc, List.getElem?_eq_getElem (by omega), Option.bind_eq_some_iff] at h1
   obtain ⟨cs', h2, h3⟩ := h1
   obtain ⟨u, rfl, h4, h5, h6⟩ := hel n _ _ (by omega) h3
   exact ⟨u, h2, h4, h5, fun e he => by
    rw [List.getElem?_eq_getElem (by omega)] at he
    injection he with he
    rw [← he]; exact h6⟩
  obtain ⟨l, hll, hp⟩ := list_of len key
  have hone : ∀ u ∈ l, (f u).length = sz ∧ p u := fun u hu => by
   obtain ⟨i, hi⟩ := List.mem_iff_getElem?.1 hu
   exact ⟨(hp i u hi).2.1, (hp i u hi).2.2.1⟩
  have hcell : ∀ j v, (l.flatMap f)[j]? = some v → W.cell? (a.add j) = some v := fun j v hv => by
   obtain ⟨u, h1, h2⟩ := flat_at hpos (fun u hu => (hone u hu).1) hv
   obtain ⟨h3, _⟩ := hp _ u h1
   obtain ⟨_, _, h5⟩ := World.cells?_some h3
   have h6 := h5 (j % sz) (Nat.mod_lt _ hpos)
   rw [add_add, Nat.mul_comm, Nat.div_add_mod] at h6
   rw [h6]; exact h2
  have hfl : (l.flatMap f).length = len * sz := by rw [flat_len (fun u hu => (hone u hu).1), hll]
  refine ⟨some a, len, cap, l, hcs, hl, hll, ⟨hfl, fun _ => rfl, fun h0 => ?_, hcell⟩, hone, ?_⟩
  ·have hlt : 0 < (l.flatMap f).length := by rw [hfl]; exact Nat.mul_pos h0 hpos
   have := hcell 0 _ (List.getElem?_eq_getElem hlt)
   have hb := World.block_lt_of_cell? W _ this
   have e : (a.add 0).block = a.block := by unfold Addr.add; split <;> rfl
   rw [e] at hb
   exact hb
  ·have := sum_le (g := g) l es (by omega) (fun i u e hu he => (hp i u hu).2.2.2 e he)
   rw [hx]
   show _ ≤ Rows.uptoBulk (DataW.slice _ _)
   simp only [Rows.uptoBulk]
   omega
structure JVT (P : Program) (t : TypeId) (fs : Array Field) (f0 f1 f2 f3 f4 : Field) (us : TypeId) : Prop where
 und : P.underlying t = some (.struct fs)
 size : P.cellsOf t = 5
 at_ : fs = #[f0, f1, f2, f3, f4]
 off : [f0, f1, f2, f3, f4].map (fun f => (f.offset, P.cellsOf f.type)) = [(0, 1), (1, 1), (2, 1), (3, 1), (4, 1)]
 typ : [f0, f1, f2, f3, f4].map (fun f => P.underlying f.type) = [some (.int .i64), some (.int .i64), some .string, some (.slice us), some (.slice t)]
 str : P.underlying us = some .string
 sone : P.cellsOf us = 1
end
end Go.Proofs.YtlhicfpmlncomaaGreatDoor

namespace Go.Proofs.YtlhicfpmlncomaaGreatDoor
open Go.RowKit
theorem jRightL_ok {f : JV → Nat → Option Nat} (hf : ∀ v m x, f v m = some x → JOk v) {obj : Bool} : ∀ {ks : List JV} {seen ns : List (List UInt8)} {m x : Nat}, jRightL f obj seen ns ks m = some x → JOkL ks
 | [], _, _, _, _, _ => by rw [JOkL]; trivial
 | v :: vs, seen, ns, m, x, h => by
  rw [jRightL] at h
  split at h
  ·cases h
  ·cases hv : f v m with
   | none => rw [hv] at h; cases h
   | some m' =>
    rw [hv] at h
    rw [JOkL]
    exact ⟨hf _ _ _ hv, jRightL_ok hf h⟩
theorem jRight_ok : ∀ {d : Nat} (v : JV) (m x : Nat), jRight d v m = some x → JOk v
 | 0, .mk k n t ns ks, m, x, h => by
  rw [jRight] at h
  split at h
  ·cases h
  ·rename_i hb
   unfold jBad at hb
   split at h
   ·rw [JOk]; left; omega
   ·cases h
 | d + 1, .mk k n t ns ks, m, x, h => by
  rw [jRight] at h
  split at h
  ·cases h
  ·rename_i hb
   unfold jBad at hb
   split at h
   ·rw [JOk]; left; omega
   ·split at h
    ·cases h
    ·rename_i h5 h6
     have hk := jRightL_ok (fun v m x => jRight_ok (d := d) v m x) h
     rw [JOk]
     right
     by_cases hk6 : k = 6
     ·right; exact ⟨hk6, Decidable.byContradiction (fun hl => h6 ⟨hk6, hl⟩), hk⟩
     ·left; exact ⟨by omega, hk⟩
def jWrite (v : JV) : List UInt8 × Nat :=
 match jRight 16 v 0 with
 | none => ([], 1)
 | some _ => if 65536 < (jFull v).length then ([], 8) else (jFull v, 0)
def WriteEnd (w : World) (v : JV) (e : Ending) (w' : World) : Prop :=
 ∃ u, e = .returned (.tuple #[u, .int .i64 ((jWrite v).2 : Int)]) ∧ Fr [] w w' [Ent.bytes w.heap.size 5 u (jWrite v).1]
set_option maxRecDepth 20000 in
set_option maxHeartbeats 6400000 in
theorem write_any (v : JV) (cs : List Value) (w : World) (hL : LibsAt w.heap.size w) (hv : VRd w (· < w.heap.size) v cs) (hsm : JSm v) (htx : JTx v) (hfl : 6 * (jFull v).length ≤ 140737480000000) :
  Calls Tryz.prog 61 #[.agg cs.toArray] w (WriteEnd w v) := by
 have hcl := box hv.len
 have hco := box (VRd.one hv)
 have hF0 := Fr.nil w
 go_enter Tryz.func61, Tryz.ntmps61
 go_wp2_with (first | ((with_reducible refine lsx (wp_fbox hF0 (cs := cs) rfl (by with_unfolding_all rfl) (by with_unfolding_all rfl) ?_)); intro w1 g1 hF1 hz1) | ((with_reducible refine lsx (wp_falloc hF1 (cs := [(.int .i64 0)]) (z := (.int .i64 0)) rfl (by kernel_rfl) (by with_unfolding_all rfl) ?_)); intro w2 g2 hF2 hz2) | ((with_reducible refine lsx (wp_fst0 hF2 (by with_unfolding_all exact ⟨_, _, rfl, rfl, rfl⟩) (by kernel_rfl) rfl rfl (by first | decide | (simp; done) | (simp; omega)) (spl1' _ (.int .i64 0)) ?_)); intro w3 hF3 hz3) | (with_reducible refine lsx (wp_fldA1 hF3 uq76 rfl (by with_unfolding_all exact ⟨_, rfl, rfl⟩) (ds := cs) (by rw [hcl.out]; kernel_rfl) (take_all _) ?_)))
 have hg2 : w.heap.size ≤ g2 := by
  rcases hF3.fresh 0 _ rfl _ rfl with h | h
  ·exact h
  ·simp at h
 have hb3 := hF3.below
 have hri := right_any 16 0 v cs w3 g2 0 w.heap.size rfl (by omega) (hL.on hb3) (hF3.blk (i := 0) rfl) hg2 hF3.size (hv.onG hb3) hsm htx
 refine hri.mono ?_
 rintro e w4 ⟨m4, rfl, hx4, h4⟩
 have hF4 := hF3.putF (i := 0) rfl h4
 simp only [List.set_cons_zero] at hF4
 clear hri h4 hF0 hF1 hF2 hF3
 cases hr : jRight 16 v 0 with
 | none =>
  have hw : Box (jWrite v = ([], 1)) := box (by unfold jWrite; rw [hr])
  simp only [Option.isSome_none]
  go_wp2_with fail
  go_ret2
  unfold WriteEnd
  rw [hw.out]
  exact ⟨_, rfl, hF4.tail.tail.pushNil _⟩
 | some x =>
  have hok := jRight_ok v 0 x hr
  have hw : Box (jWrite v = if 65536 < (jFull v).length then ([], 8) else (jFull v, 0)) := box (by unfold jWrite; rw [hr])
  simp only [Option.isSome_some]
  have hF5 := hF4.pushNil 5
  have hNU : NotU8 [Ent.blk g2 3 [.int .i64 (m4 : Int)], .blk g1 76 cs] := NotU8.cons (NotU8.cons (fun e he => by cases he) (by decide)) (by decide)
  have hwr := written_any (SizeOf.sizeOf v) v cs w w4 none 0 [] _ (Nat.le_refl _) hv hsm hok hL hNU (by simp; omega) hF5
  go_wp2_with (first | (with_reducible refine lsx (wp_fldA1 hF4 uq76 rfl (by with_unfolding_all exact ⟨_, rfl, rfl⟩) (ds := cs) (by rw [hcl.out]; kernel_rfl) (take_all _) ?_)))
  refine hwr.mono ?_
  rintro e w6 ⟨u6, l6, rfl, hl6, hF6⟩
  obtain ⟨A6, c6, rfl, hc6, hr6⟩ := (hF6.own (i := 0) rfl).arg
  clear hwr hF5 hF4
  have hl7 := hl6.out
  rw [List.nil_append] at hl7
  by_cases hbig : 65536 < l6.length
  ·have d1 : decide ((65536 : Int) < (l6.length : Int)) = true := decide_eq_true (by omega)
   have hend : Box (jWrite v = ([], 8)) := box (by rw [hw.out, if_pos (by omega)])
   replace hbig := box hbig
   replace hl7 := box hl7
   go_wp2_with fail
   go_ret2
   unfold WriteEnd
   rw [hend.out]
   exact ⟨_, rfl, hF6.tail.tail.tail.pushNil _⟩
  ·have d1 : decide ((65536 : Int) < (l6.length : Int)) = false := decide_eq_false (by omega)
   have he : l6 = jFull v := hl7.2.resolve_right hbig
   have hend : Box (jWrite v = (l6, 0)) := box (by rw [hw.out, if_neg (by rw [← he]; exact hbig), he])
   replace hbig := box hbig
   replace hl7 := box hl7
   replace he := box he
   go_wp2_with fail
   go_ret2
   unfold WriteEnd
   rw [hend.out]
   exact ⟨_, rfl, hF6.pick1 (i := 0) rfl⟩
end Go.Proofs.YtlhicfpmlncomaaGreatDoor

namespace Go.Proofs.YtlhicfpmlncomaaGreatDoor
open Go.Lib
mutual
def jTot : JV → Nat
 | .mk k _ _ _ ks => if 5 ≤ k then 1 + jTotL ks else 1
def jTotL : List JV → Nat
 | [] => 0
 | v :: vs => jTot v + jTotL vs
end
mutual
def jCnt : JV → Nat → Nat
 | .mk k _ _ _ ks, most => if 5 ≤ k then jCntL ks most 1 else 1
def jCntL : List JV → Nat → Nat → Nat
 | [], _, n => n
 | v :: vs, most, n => if n ≤ most then jCntL vs most (n + jCnt v (most - n)) else n
end
mutual
theorem jCnt_tot : ∀ (v : JV) (most : Nat), (jTot v ≤ most → jCnt v most = jTot v) ∧ (most < jTot v → 0 < most → most < jCnt v most) ∧ jCnt v most ≤ jTot v ∧ 1 ≤ jCnt v most
 | .mk k n t ns ks, most => by
  rw [jTot, jCnt]
  by_cases hk : 5 ≤ k
  ·rw [if_pos hk, if_pos hk]
   have := jCntL_tot ks most 1
   exact ⟨fun h => this.1 (by omega), fun h _ => this.2.1 h, this.2.2.1, by have := this.2.2.2; omega⟩
  ·rw [if_neg hk, if_neg hk]
   exact ⟨fun _ => rfl, fun h h0 => by omega, Nat.le_refl _, Nat.le_refl _⟩
theorem jCntL_tot : ∀ (ks : List JV) (most n : Nat), (n + jTotL ks ≤ most → jCntL ks most n = n + jTotL ks) ∧ (most < n + jTotL ks → most < jCntL ks most n) ∧ jCntL ks most n ≤ n + jTotL ks ∧ n ≤ jCntL ks most n
 | [], most, n => by rw [jTotL, jCntL]; exact ⟨fun _ => rfl, fun h => h, Nat.le_refl _, Nat.le_refl _⟩
 | v :: vs, most, n => by
  rw [jTotL, jCntL]
  by_cases hn : n ≤ most
  ·rw [if_pos hn]
   obtain ⟨h1, h2, h3, h4⟩ := jCnt_tot v (most - n)
   obtain ⟨g1, g2, g3, g4⟩ := jCntL_tot vs most (n + jCnt v (most - n))
   refine ⟨fun h => ?_, fun h => ?_, by omega, by omega⟩
   ·have := h1 (by omega)
    have := g1 (by omega)
    omega
   ·by_cases hv : jTot v ≤ most - n
    ·have := h1 hv
     exact g2 (by omega)
    ·by_cases h0 : 0 < most - n
     ·have := h2 (by omega) h0
      omega
     ·omega
  ·rw [if_neg hn]
   exact ⟨fun h => by omega, fun _ => by omega, by omega, Nat.le_refl _⟩
end
theorem jCnt_most {v : JV} {most : Nat} (h0 : 0 < most) : most < jCnt v most ↔ most < jTot v := by
 obtain ⟨h1, h2, h3, _⟩ := jCnt_tot v most
 exact ⟨fun h => by omega, fun h => h2 h h0⟩
mutual
theorem jTot_w : ∀ (v : JV), jTot v ≤ jW v
 | .mk k n t ns ks => by
  have := jTotL_w ks
  rw [jTot, jW]
  split <;> omega
theorem jTotL_w : ∀ (ks : List JV), jTotL ks ≤ jWL ks
 | [] => Nat.le_refl _
 | v :: vs => by
  have h1 := jTot_w v
  have h2 := jTotL_w vs
  rw [jTotL, jWL]
  omega
end
theorem jTotL_drop {ks : List JV} {i : Nat} {v : JV} (hv : ks[i]? = some v) : jTotL (ks.drop i) = jTot v + jTotL (ks.drop (i + 1)) := by
 rw [List.drop_eq_getElem_cons (List.getElem?_eq_some_iff.1 hv).1, (List.getElem?_eq_some_iff.1 hv).2, jTotL]
theorem jCntL_drop {ks : List JV} {i most n : Nat} {v : JV} (hv : ks[i]? = some v) : jCntL (ks.drop i) most n = if n ≤ most then jCntL (ks.drop (i + 1)) most (n + jCnt v (most - n)) else n := by
 rw [List.drop_eq_getElem_cons (List.getElem?_eq_some_iff.1 hv).1, (List.getElem?_eq_some_iff.1 hv).2, jCntL]
def jBadD (k n : Int) (t : List UInt8) : Prop := k < 0 ∨ 6 < k ∨ 9007199254740991 < n ∨ n < -9007199254740991 ∨ validD t = false
instance (k n : Int) (t : List UInt8) : Decidable (jBadD k n t) := by unfold jBadD; exact inferInstance
def jDRL (f : JV → Bool) (obj : Bool) : List (List UInt8) → List (List UInt8) → List JV → Bool
 | _, _, [] => true
 | seen, ns, v :: vs => f v && (!(obj && decide (ns.headD [] ∈ seen)) && (!(obj && !validD (ns.headD [])) && jDRL f obj (seen ++ [ns.headD []]) ns.tail vs))
def jDR : Nat → JV → Bool
 | 0, .mk k n t _ _ => decide (¬ jBadD k n t) && decide (k < 5)
 | d + 1, .mk k n t ns ks => decide (¬ jBadD k n t) && (decide (k < 5) || (!decide (k = 6 ∧ ns.length ≠ ks.length) && jDRL (jDR d) (k == 6) [] ns ks))
theorem jBad_iff {k n : Int} {t : List UInt8} {m : Nat} : jBad k n t m ↔ 4096 < m + 1 ∨ jBadD k n t := by
 unfold jBad jBadD
 constructor
 ·rintro (h | h | h | h | h | h) <;> simp [h]
 ·rintro (h | h | h | h | h | h) <;> simp [h]
theorem jRightL_doc {f : JV → Nat → Option Nat} {g : JV → Bool} (hf : ∀ v m, f v m = if g v = true ∧ m + jTot v ≤ 4096 then some (m + jTot v) else none) {obj : Bool} : ∀ (ks : List JV) (seen ns : List (List UInt8)) (m : Nat),
  m ≤ 4096 → jRightL f obj seen ns ks m = if jDRL g obj seen ns ks = true ∧ m + jTotL ks ≤ 4096 then some (m + jTotL ks) else none
 | [], seen, ns, m, hm => by rw [jRightL, jDRL, jTotL, if_pos ⟨rfl, hm⟩]; rfl
 | v :: vs, seen, ns, m, hm => by
  rw [jRightL, jDRL, jTotL]
  by_cases hn : obj = true ∧ (validD (ns.headD []) = false ∨ ns.headD [] ∈ seen)
  ·rw [if_pos hn, if_neg]
   rintro ⟨h, _⟩
   simp only [Bool.and_eq_true, Bool.not_eq_true', Bool.and_eq_false_iff, decide_eq_false_iff_not, Bool.not_eq_false'] at h
   obtain ⟨_, h1, h2, _⟩ := h
   rcases hn.2 with h3 | h3
   ·rcases h2 with h2 | h2
    ·rw [hn.1] at h2; cases h2
    ·rw [h3] at h2; cases h2
   ·rcases h1 with h1 | h1
    ·rw [hn.1] at h1; cases h1
    ·exact h1 h3
  ·rw [if_neg hn, hf]
   have h1 : (!(obj && decide (ns.headD [] ∈ seen))) = true := by
    cases obj with
    | false => rfl
    | true => simp only [Bool.true_and, Bool.not_eq_true', decide_eq_false_iff_not]; exact fun h => hn ⟨rfl, .inr h⟩
   have h2 : (!(obj && !validD (ns.headD []))) = true := by
    cases obj with
    | false => rfl
    | true => simp only [Bool.true_and, Bool.not_not]; cases hv : validD (ns.headD []); exact absurd ⟨rfl, .inl hv⟩ hn; rfl
   rw [h1, h2]
   simp only [Bool.true_and]
   by_cases hg : g v = true ∧ m + jTot v ≤ 4096
   ·rw [if_pos hg]
    simp only []
    rw [jRightL_doc hf vs _ _ _ hg.2, hg.1]
    simp only [Bool.true_and, Nat.add_assoc]
   ·rw [if_neg hg, if_neg]
    rintro ⟨h3, h4⟩
    rw [Bool.and_eq_true] at h3
    exact hg ⟨h3.1, by omega⟩
theorem jRight_doc : ∀ (d : Nat) (v : JV) (m : Nat), jRight d v m = if jDR d v = true ∧ m + jTot v ≤ 4096 then some (m + jTot v) else none
 | 0, .mk k n t ns ks, m => by
  rw [jRight, jDR, jTot]
  by_cases hb : jBad k n t m
  ·rw [if_pos hb, if_neg]
   rintro ⟨h, h2⟩
   rw [Bool.and_eq_true, decide_eq_true_eq, decide_eq_true_eq] at h
   rcases jBad_iff.1 hb with h1 | h1
   ·split at h2 <;> omega
   ·exact h.1 h1
  ·rw [if_neg hb]
   have hb2 : ¬ jBadD k n t := fun h => hb (jBad_iff.2 (.inr h))
   have hm : ¬ 4096 < m + 1 := fun h => hb (jBad_iff.2 (.inl h))
   by_cases hk : k < 5
   ·rw [if_pos hk, if_neg (show ¬ 5 ≤ k by omega), if_pos ⟨by simp [hb2, hk], by omega⟩]
   ·rw [if_neg hk, if_neg (by simp [hk])]
 | d + 1, .mk k n t ns ks, m => by
  rw [jRight, jDR, jTot]
  by_cases hb : jBad k n t m
  ·rw [if_pos hb, if_neg]
   rintro ⟨h, h2⟩
   rw [Bool.and_eq_true, decide_eq_true_eq] at h
   rcases jBad_iff.1 hb with h1 | h1
   ·split at h2 <;> omega
   ·exact h.1 h1
  ·rw [if_neg hb]
   have hb2 : ¬ jBadD k n t := fun h => hb (jBad_iff.2 (.inr h))
   have hm : ¬ 4096 < m + 1 := fun h => hb (jBad_iff.2 (.inl h))
   by_cases hk : k < 5
   ·rw [if_pos hk, if_neg (show ¬ 5 ≤ k by omega), if_pos ⟨by simp [hb2, hk], by omega⟩]
   ·rw [if_neg hk, if_pos (show 5 ≤ k by omega)]
    by_cases hl : k = 6 ∧ ns.length ≠ ks.length
    ·rw [if_pos hl, if_neg (by simp [hk, hl])]
    ·rw [if_neg hl, jRightL_doc (jRight_doc d) ks [] ns (m + 1) (by omega)]
     have e1 : (decide (¬ jBadD k n t) && (decide (k < 5) || (!decide (k = 6 ∧ ns.length ≠ ks.length) && jDRL (jDR d) (k == 6) [] ns ks))) = jDRL (jDR d) (k == 6) [] ns ks := by
      rw [decide_eq_true hb2, decide_eq_false hk, decide_eq_false hl]; rfl
     rw [e1]
     simp only [Nat.add_assoc]
theorem jWrite_doc (v : JV) : jWrite v = if 4096 < jCnt v 4096 ∨ jDR 16 v = false then ([], 1) else if 65536 < (jFull v).length then ([], 8) else (jFull v, 0) := by
 unfold jWrite
 rw [jRight_doc, Nat.zero_add]
 by_cases h : 4096 < jCnt v 4096 ∨ jDR 16 v = false
 ·rw [if_pos h, if_neg]
  rintro ⟨h1, h2⟩
  rcases h with h | h
  ·have := (jCnt_most (v := v) (by decide)).1 h; omega
  ·rw [h] at h1; cases h1
 ·rw [if_neg h, if_pos]
  refine ⟨?_, ?_⟩
  ·cases hd : jDR 16 v
   ·exact absurd (.inr hd) h
   ·rfl
  ·rcases Nat.lt_or_ge 4096 (jTot v) with h1 | h1
   ·exact absurd (.inl ((jCnt_most (by decide)).2 h1)) h
   ·exact h1
end Go.Proofs.YtlhicfpmlncomaaGreatDoor

namespace Go.Proofs.YtlhicfpmlncomaaGreatDoor
open Go.Lib
set_option maxRecDepth 100000 in
set_option maxHeartbeats 4000000 in
theorem check_jSize (c : UInt8) (t : List UInt8) (h0 : 128 ≤ c.toNat) :
  checkN (t.length + 1) (t.getD 0 0).toNat (t.getD 1 0).toNat (t.getD 2 0).toNat (firstT c.toNat % 8) (accLo (firstT c.toNat / 16)) (accHi (firstT c.toNat / 16)) = if jSize (c :: t) = 0 then none else some (jSize (c :: t)) := by
 have hc := c.toNat_lt
 have key : ∀ sz lo hi, firstT c.toNat % 8 = sz → accLo (firstT c.toNat / 16) = lo → accHi (firstT c.toNat / 16) = hi →
   checkN (t.length + 1) (t.getD 0 0).toNat (t.getD 1 0).toNat (t.getD 2 0).toNat sz lo hi = (if jSize (c :: t) = 0 then none else some (jSize (c :: t))) →
   checkN (t.length + 1) (t.getD 0 0).toNat (t.getD 1 0).toNat (t.getD 2 0).toNat (firstT c.toNat % 8) (accLo (firstT c.toNat / 16)) (accHi (firstT c.toNat / 16)) = if jSize (c :: t) = 0 then none else some (jSize (c :: t)) := fun sz lo hi e1 e2 e3 h => by
  rw [e1, e2, e3, h]
 by_cases c0 : c.toNat < 194
 ·refine key (firstT c.toNat % 8) (accLo (firstT c.toNat / 16)) (accHi (firstT c.toNat / 16)) rfl rfl rfl ?_
  simp [checkN, jSize, firstT, show ¬ c.toNat < 128 by omega, show c.toNat < 194 by omega, show c.toNat < 224 by omega, show c.toNat < 240 by omega, show c.toNat < 245 by omega]
 by_cases c1 : c.toNat < 224
 ·refine key 2 128 191 (by simp [firstT, show ¬ c.toNat < 128 by omega, c0, c1]) (by simp [firstT, accLo, show ¬ c.toNat < 128 by omega, c0, c1]) (by simp [firstT, accHi, show ¬ c.toNat < 128 by omega, c0, c1]) ?_
  rcases t with _ | ⟨x, _ | ⟨y, _ | ⟨z, t⟩⟩⟩ <;> simp [checkN, jSize, jCont, show ¬ c.toNat < 128 by omega, show ¬ c.toNat < 194 by omega, show c.toNat < 224 by omega, show c.toNat < 240 by omega, show c.toNat < 245 by omega] <;> (repeat' split) <;> first | omega | (simp_all; done) | (simp_all; omega)
 by_cases c2 : c.toNat = 224
 ·refine key 3 160 191 (by rw [c2]; decide) (by rw [c2]; decide) (by rw [c2]; decide) ?_
  rcases t with _ | ⟨x, _ | ⟨y, _ | ⟨z, t⟩⟩⟩ <;> simp [checkN, jSize, jCont, show ¬ c.toNat < 128 by omega, show ¬ c.toNat < 194 by omega, show ¬ c.toNat < 224 by omega, show c.toNat < 240 by omega, show c.toNat < 245 by omega] <;> (repeat' split) <;> first | omega | (simp_all; done) | (simp_all; omega)
 by_cases c3 : c.toNat < 237
 ·refine key 3 128 191 (by simp [firstT, show ¬ c.toNat < 128 by omega, c0, c1, c2, c3]) (by simp [firstT, accLo, show ¬ c.toNat < 128 by omega, c0, c1, c2, c3]) (by simp [firstT, accHi, show ¬ c.toNat < 128 by omega, c0, c1, c2, c3]) ?_
  rcases t with _ | ⟨x, _ | ⟨y, _ | ⟨z, t⟩⟩⟩ <;> simp [checkN, jSize, jCont, show ¬ c.toNat < 128 by omega, show ¬ c.toNat < 194 by omega, show ¬ c.toNat < 224 by omega, show c.toNat < 240 by omega, show c.toNat < 245 by omega] <;> (repeat' split) <;> first | omega | (simp_all; done) | (simp_all; omega)
 by_cases c4 : c.toNat = 237
 ·refine key 3 128 159 (by rw [c4]; decide) (by rw [c4]; decide) (by rw [c4]; decide) ?_
  rcases t with _ | ⟨x, _ | ⟨y, _ | ⟨z, t⟩⟩⟩ <;> simp [checkN, jSize, jCont, show ¬ c.toNat < 128 by omega, show ¬ c.toNat < 194 by omega, show ¬ c.toNat < 224 by omega, show c.toNat < 240 by omega, show c.toNat < 245 by omega] <;> (repeat' split) <;> first | omega | (simp_all; done) | (simp_all; omega)
 by_cases c5 : c.toNat < 240
 ·refine key 3 128 191 (by simp [firstT, show ¬ c.toNat < 128 by omega, c0, c1, c2, c3, c4, c5]) (by simp [firstT, accLo, show ¬ c.toNat < 128 by omega, c0, c1, c2, c3, c4, c5]) (by simp [firstT, accHi, show ¬ c.toNat < 128 by omega, c0, c1, c2, c3, c4, c5]) ?_
  rcases t with _ | ⟨x, _ | ⟨y, _ | ⟨z, t⟩⟩⟩ <;> simp [checkN, jSize, jCont, show ¬ c.toNat < 128 by omega, show ¬ c.toNat < 194 by omega, show ¬ c.toNat < 224 by omega, show c.toNat < 240 by omega, show c.toNat < 245 by omega] <;> (repeat' split) <;> first | omega | (simp_all; done) | (simp_all; omega)
 by_cases c6 : c.toNat = 240
 ·refine key 4 144 191 (by rw [c6]; decide) (by rw [c6]; decide) (by rw [c6]; decide) ?_
  rcases t with _ | ⟨x, _ | ⟨y, _ | ⟨z, t⟩⟩⟩ <;> simp [checkN, jSize, jCont, show ¬ c.toNat < 128 by omega, show ¬ c.toNat < 194 by omega, show ¬ c.toNat < 224 by omega, show ¬ c.toNat < 240 by omega, show c.toNat < 245 by omega] <;> (repeat' split) <;> first | omega | (simp_all; done) | (simp_all; omega)
 by_cases c7 : c.toNat < 244
 ·refine key 4 128 191 (by simp [firstT, show ¬ c.toNat < 128 by omega, c0, c1, c2, c3, c4, c5, c6, c7]) (by simp [firstT, accLo, show ¬ c.toNat < 128 by omega, c0, c1, c2, c3, c4, c5, c6, c7]) (by simp [firstT, accHi, show ¬ c.toNat < 128 by omega, c0, c1, c2, c3, c4, c5, c6, c7]) ?_
  rcases t with _ | ⟨x, _ | ⟨y, _ | ⟨z, t⟩⟩⟩ <;> simp [checkN, jSize, jCont, show ¬ c.toNat < 128 by omega, show ¬ c.toNat < 194 by omega, show ¬ c.toNat < 224 by omega, show ¬ c.toNat < 240 by omega, show c.toNat < 245 by omega] <;> (repeat' split) <;> first | omega | (simp_all; done) | (simp_all; omega)
 by_cases c8 : c.toNat = 244
 ·refine key 4 128 143 (by rw [c8]; decide) (by rw [c8]; decide) (by rw [c8]; decide) ?_
  rcases t with _ | ⟨x, _ | ⟨y, _ | ⟨z, t⟩⟩⟩ <;> simp [checkN, jSize, jCont, show ¬ c.toNat < 128 by omega, show ¬ c.toNat < 194 by omega, show ¬ c.toNat < 224 by omega, show ¬ c.toNat < 240 by omega, show c.toNat < 245 by omega] <;> (repeat' split) <;> first | omega | (simp_all; done) | (simp_all; omega)
 refine key (firstT c.toNat % 8) (accLo (firstT c.toNat / 16)) (accHi (firstT c.toNat / 16)) rfl rfl rfl ?_
 simp [checkN, jSize, firstT, show ¬ c.toNat < 128 by omega, c0, c1, c2, c3, c4, c5, c6, c7, c8, show ¬ c.toNat < 240 by omega, show ¬ c.toNat < 245 by omega]
theorem validD_jSize (c : UInt8) (t : List UInt8) : validD (c :: t) = if jSize (c :: t) = 0 then false else validD ((c :: t).drop (jSize (c :: t))) := by
 by_cases h : c.toNat < 128
 ·rw [validD_cons c t h, show jSize (c :: t) = 1 by simp [jSize, h]]
  rfl
 ·rw [validD_lead (c :: t) (by simp) (by simpa using h)]
  have := check_jSize c t (by omega)
  simp only [List.length_cons, List.getD_cons_zero, List.getD_cons_succ] at this ⊢
  rw [this]
  by_cases h0 : jSize (c :: t) = 0
  ·rw [if_pos h0, if_pos h0]
  ·rw [if_neg h0, if_neg h0]
theorem jSize_take {l : List UInt8} {n : Nat} (h : jSize l ≠ 0) (hn : jSize l ≤ n) : jSize l ≤ l.length ∧ jSize (l.take n) = jSize l := by
 rcases l with _ | ⟨c, _ | ⟨x, _ | ⟨y, _ | ⟨z, t⟩⟩⟩⟩ <;> rcases n with _ | _ | _ | _ | n <;> simp only [jSize, List.take_zero, List.take_succ_cons, List.take_nil, List.length_cons, List.length_nil] at h hn ⊢ <;> (repeat' split at h) <;> simp_all <;> (repeat' split) <;> (try omega)
end Go.Proofs.YtlhicfpmlncomaaGreatDoor

namespace Go.Proofs.YtlhicfpmlncomaaGreatDoor
open Go.Lib
mutual
def JGood (L : Nat) : JV → Prop
 | .mk k n t ns ks => 0 ≤ k ∧ k ≤ 6 ∧ (k ≠ 3 → n = 0) ∧ (k ≠ 4 → t = []) ∧ (k ≠ 6 → ns = []) ∧ (k < 5 → ks = []) ∧ t.length ≤ L ∧ (∀ s ∈ ns, s.length ≤ L) ∧ ns.length ≤ 4096 ∧ ks.length ≤ 4096 ∧ JGoodL L ks
def JGoodL (L : Nat) : List JV → Prop
 | [] => True
 | v :: vs => JGood L v ∧ JGoodL L vs
end
mutual
theorem JGood.sm {L : Nat} : ∀ (v : JV), JGood L v → JSm v
 | .mk k n t ns ks, h => by rw [JGood] at h; rw [JSm]; exact ⟨by omega, by omega, JGoodL.sm ks h.2.2.2.2.2.2.2.2.2.2⟩
theorem JGoodL.sm {L : Nat} : ∀ (ks : List JV), JGoodL L ks → JSmL ks
 | [], _ => by rw [JSmL]; trivial
 | v :: vs, h => by rw [JGoodL] at h; rw [JSmL]; exact ⟨JGood.sm v h.1, JGoodL.sm vs h.2⟩
end
mutual
theorem JGood.tx {L : Nat} (hL : L ≤ 140737488355328) : ∀ (v : JV), JGood L v → JTx v
 | .mk k n t ns ks, h => by rw [JGood] at h; rw [JTx]; exact ⟨by omega, fun s hs => Nat.le_trans (h.2.2.2.2.2.2.2.1 s hs) hL, JGoodL.tx hL ks h.2.2.2.2.2.2.2.2.2.2⟩
theorem JGoodL.tx {L : Nat} (hL : L ≤ 140737488355328) : ∀ (ks : List JV), JGoodL L ks → JTxL ks
 | [], _ => by rw [JTxL]; trivial
 | v :: vs, h => by rw [JGoodL] at h; rw [JTxL]; exact ⟨JGood.tx hL v h.1, JGoodL.tx hL vs h.2⟩
end
end Go.Proofs.YtlhicfpmlncomaaGreatDoor

namespace Go.Proofs.YtlhicfpmlncomaaGreatDoor
open Go.Lib
end Go.Proofs.YtlhicfpmlncomaaGreatDoor

namespace Go.Proofs.YtlhicfpmlncomaaGreatDoor
open Go.Lib
end Go.Proofs.YtlhicfpmlncomaaGreatDoor

namespace Go.Proofs.YtlhicfpmlncomaaGreatDoor
open Go.Lib
end Go.Proofs.YtlhicfpmlncomaaGreatDoor

namespace Go.Proofs.YtlhicfpmlncomaaGreatDoor
open Go.Lib
end Go.Proofs.YtlhicfpmlncomaaGreatDoor

namespace Go.Proofs.YtlhicfpmlncomaaGreatDoor
end Go.Proofs.YtlhicfpmlncomaaGreatDoor

namespace Go.Proofs.YtlhicfpmlncomaaGreatDoor
open Go.Lib
end Go.Proofs.YtlhicfpmlncomaaGreatDoor

namespace Go.Proofs.YtlhicfpmlncomaaGreatDoor
open Go.Lib
def mRightN (l : List MNote) : Prop := l.length ≤ 32 ∧ (∀ x ∈ l, validD x.key = true ∧ validD x.val = true) ∧ (l.map (·.key)).Nodup
def mRightD (d : MDesc) : Prop := mediaB d.media = true ∧ 0 ≤ d.size ∧ d.size ≤ 1099511627776 ∧ mRightN d.notes
def mRight (d : MDoc) : Prop := (d.media = sImage ∨ d.media = sIndex) ∧ (d.type = [] ∨ mediaB d.type = true) ∧ d.edges.length ≤ 64 ∧ mRightN d.notes ∧ (∀ x ∈ d.edges, mRightD x) ∧ (d.media = sImage → mRightD d.config) ∧ (d.has = true → mRightD d.subject)
instance (l : List MNote) : Decidable (mRightN l) := by unfold mRightN; exact inferInstance
instance (d : MDesc) : Decidable (mRightD d) := by unfold mRightD; exact inferInstance
instance (d : MDoc) : Decidable (mRight d) := by unfold mRight; exact inferInstance
def jT (s : List UInt8) : JV := .mk 4 0 s [] []
def jN (n : Int) : JV := .mk 3 n [] [] []
def jO (ms : List (List UInt8 × JV)) : JV := .mk 6 0 [] (ms.map (·.1)) (ms.map (·.2))
def jL (ks : List JV) : JV := .mk 5 0 [] [] ks
def tNotes (l : List MNote) : JV := jO (l.map fun x => (x.key, jT x.val))
def tWith (l : List MNote) : List (List UInt8 × JV) := if l = [] then [] else [(kNotes, tNotes l)]
def tDesc (d : MDesc) : JV := jO ([(kMedia, jT d.media), (kDigest, jT (dgT d.dig)), (kSize, jN d.size)] ++ tWith d.notes)
def tType (s : List UInt8) : List (List UInt8 × JV) := if s = [] then [] else [(kType, jT s)]
def tMain (d : MDoc) : List (List UInt8 × JV) := if d.media = sImage then [(kConfig, tDesc d.config), (kLayers, jL (d.edges.map tDesc))] else [(kManifests, jL (d.edges.map tDesc))]
def tSubj (d : MDoc) : List (List UInt8 × JV) := if d.has = true then [(kSubject, tDesc d.subject)] else []
def tMems (d : MDoc) : List (List UInt8 × JV) := [(kVersion, jN 2), (kMedia, jT d.media)] ++ (tType d.type ++ (tMain d ++ (tSubj d ++ tWith d.notes)))
def mTell (d : MDoc) : JV := jO (tMems d)
def mWrite (d : MDoc) : List UInt8 × Nat := if mRight d then (if (jWrite (mTell d)).2 = 0 then jWrite (mTell d) else ([], 8)) else ([], 1)
-- What is told is bare.
-- Reading members, one behind the other.
def MDig (d : MDoc) : Prop := d.config.dig.length = 32 ∧ d.subject.dig.length = 32 ∧ ∀ x ∈ d.edges, x.dig.length = 32
section
variable {d : MDoc}
end
end Go.Proofs.YtlhicfpmlncomaaGreatDoor

namespace Go.Proofs.YtlhicfpmlncomaaGreatDoor
open Go.RowKit
theorem macc_step {l : List UInt8} {k h : Nat} {b : Bool} {c : UInt8} (hc : l[k]? = some c) : macc h b (l.drop k) = if c = 47 ∧ b = true then macc (h + 1) false (l.drop (k + 1)) else if (signB c || (b && moreB c)) = true then macc h true (l.drop (k + 1)) else false := by
 obtain ⟨hk, rfl⟩ := List.getElem?_eq_some_iff.1 hc
 rw [List.drop_eq_getElem_cons hk, macc]
theorem any_take {p : UInt8 → Bool} {l : List UInt8} {k : Nat} {c : UInt8} (h : l[k]? = some c) : (l.take (k + 1)).any p = ((l.take k).any p || p c) := by rw [take_snoc h]; simp
set_option maxRecDepth 20000 in
set_option maxHeartbeats 3200000 in
theorem mediaF_any (s : ByteArray) (w : World) (hs : s.size ≤ 4294967281) : Calls Tryz.prog 46 #[.string s] w fun e w' => e = .returned (.bool (mediaB s.data.toList)) ∧ w = w' := by
 have hlb := box (str_len s)
 have hRB : Box (mediaB s.data.toList = (macc 1 false s.data.toList && decide (s.size ≤ 127))) := box (media_macc _)
 generalize mediaB s.data.toList = R at *
 go_enter Tryz.func46, Tryz.ntmps46
 go_wp2
 go_loop [3, 4, 6] (fun x3 x4 x6 => ∃ (k h : Nat) (b : Bool), k ≤ s.size ∧ h ≤ k + 1 ∧ x3 = .int .i64 h ∧ x4 = .bool b ∧ x6 = .int .i64 k ∧ Box (macc 1 false s.data.toList = macc h b (s.data.toList.drop k))) (fun _ _ i => s.size - (intOf i).toNat)
 case atStart => exact ⟨0, 1, false, by omega, by omega, rfl, rfl, rfl, box rfl⟩
 case round =>
  obtain ⟨k, h, b, hk, hh, rfl, rfl, rfl, hA⟩ := hrel
  by_cases hlt : k < s.size
  ·obtain ⟨c, hc⟩ := str_at hlt
   have hix := fun W => run_strIx (P := Tryz.prog) uq9 hc (i := (k : Int)) rfl .i64 W
   have hA2 : Box (macc 1 false s.data.toList = if c = 47 ∧ b = true then macc (h + 1) false (s.data.toList.drop (k + 1)) else if (signB c || (b && moreB c)) = true then macc h true (s.data.toList.drop (k + 1)) else false) := box (hA.out.trans (macc_step hc))
   clear hA
   replace hc := box hc
   by_cases h47 : c = 47
   ·subst h47
    replace hix : ∀ W, (Instr.index 9 (.string s) (.int .i64 (k : Int))).run Tryz.prog W = .ok (.int .u8 47) W := hix
    cases b with
    | true =>
     have hA3 : Box (macc 1 false s.data.toList = macc (h + 1) false (s.data.toList.drop (k + 1))) := box (by rw [hA2.out]; simp)
     clear hA2
     go_wp2
     go_round
     case rel => exact ⟨k + 1, h + 1, false, by omega, by omega, by go_num, rfl, by go_num, hA3⟩
     case measure => simp [intOf]; omega
    | false =>
     have hfin : Box (R = false) := box (by rw [hRB.out, hA2.out]; simp [sign47])
     have hs47 := sign47
     clear hA2 hRB
     go_wp2_with (go_at_call 77; refine (signF_any 47 _ rfl _).mono ?_; rintro e w' ⟨rfl, rfl⟩)
     go_loop [8, 9] (fun o i => o = .bool false ∧ i = .int .i64 0) (fun _ _ => 0)
     case atStart => exact ⟨rfl, rfl⟩
     case round =>
      obtain ⟨rfl, rfl⟩ := hrel
      go_wp2
      go_ret
      exact ⟨by rw [hfin.out]; rfl, rfl⟩
   ·have e47 : ((c.toNat : Int) == 47) = false := u8_ne (d := 47) h47
    have hA3 : Box (macc 1 false s.data.toList = if (signB c || (b && moreB c)) = true then macc h true (s.data.toList.drop (k + 1)) else false) := box (by rw [hA2.out, if_neg (fun hh => h47 hh.1)])
    clear hA2 h47
    cases b with
    | false =>
     cases hsg : signB c with
     | true =>
      have hA4 : Box (macc 1 false s.data.toList = macc h true (s.data.toList.drop (k + 1))) := box (by rw [hA3.out, hsg]; rfl)
      clear hA3
      go_wp2_with (go_at_call 77; refine (signF_any c _ rfl _).mono ?_; rintro e w' ⟨rfl, rfl⟩)
      go_loop [8, 9] (fun o i => o = .bool true ∧ i = .int .i64 0) (fun _ _ => 0)
      case atStart => exact ⟨rfl, rfl⟩
      case round =>
       obtain ⟨rfl, rfl⟩ := hrel
       go_wp2
       go_round
       case rel => exact ⟨k + 1, h, true, by omega, by omega, rfl, rfl, by go_num, hA4⟩
       case measure => simp [intOf]; omega
     | false =>
      have hfin : Box (R = false) := box (by rw [hRB.out, hA3.out, hsg]; rfl)
      clear hA3 hRB
      go_wp2_with (go_at_call 77; refine (signF_any c _ rfl _).mono ?_; rintro e w' ⟨rfl, rfl⟩)
      go_loop [8, 9] (fun o i => o = .bool false ∧ i = .int .i64 0) (fun _ _ => 0)
      case atStart => exact ⟨rfl, rfl⟩
      case round =>
       obtain ⟨rfl, rfl⟩ := hrel
       go_wp2
       go_ret
       exact ⟨by rw [hfin.out]; rfl, rfl⟩
    | true =>
     have hm9 : Box (moreS.data.toList.length = 9) := box rfl
     have hmB : Box (moreB c = moreS.data.toList.any (· == c)) := box rfl
     go_wp2_with (go_at_call 77; refine (signF_any c _ rfl _).mono ?_; rintro e w' ⟨rfl, rfl⟩)
     clear hix
     go_loop [8, 9] (fun o i => ∃ (q : Nat) (y : Bool), q ≤ 9 ∧ o = .bool y ∧ i = .int .i64 q ∧ Box (y = (signB c || (moreS.data.toList.take q).any (· == c)))) (fun _ i => 9 - (intOf i).toNat)
     case atStart => exact ⟨0, signB c, by omega, rfl, rfl, box (by simp)⟩
     case round =>
      obtain ⟨q, y, hq, rfl, rfl, hy⟩ := hrel
      by_cases hq9 : q < 9
      ·obtain ⟨d, hd⟩ : ∃ d, moreS.data.toList[q]? = some d := ⟨moreS.data.toList[q]'(by have := hm9.out; omega), by simp⟩
       have hix : ∀ W, (Instr.index 9 (.string ⟨#[33, 35, 36, 38, 45, 94, 95, 46, 43]⟩) (.int .i64 (q : Int))).run Tryz.prog W = .ok (.int .u8 (d.toNat : Int)) W := fun W => run_strIx (P := Tryz.prog) uq9 hd (i := (q : Int)) rfl .i64 W
       have hnext := box (fun (z : Bool) (hz : z = (y || d == c)) => show z = (signB c || (moreS.data.toList.take (q + 1)).any (· == c)) by rw [hz, hy.out, any_take hd, Bool.or_assoc])
       clear hy
       replace hd := box hd
       cases y with
       | true =>
        go_wp2
        go_round
        case rel => exact ⟨q + 1, true, by omega, rfl, by go_num, box (hnext.out true (by simp))⟩
        case measure => simp [intOf]; omega
       | false =>
        by_cases hdc : d = c
        ·subst hdc
         go_wp2
         go_round
         case rel => exact ⟨q + 1, true, by omega, by simp, by go_num, box (hnext.out true (by simp))⟩
         case measure => simp [intOf]; omega
        ·have hne : ((c.toNat : Int) == (d.toNat : Int)) = false := u8_ne (fun h => hdc h.symm)
         have hdf : Box ((d == c) = false) := box (beq_eq_false_iff_ne.2 hdc)
         clear hdc
         go_wp2
         go_round
         case rel => exact ⟨q + 1, false, by omega, rfl, by go_num, box (hnext.out false (by rw [hdf.out]; rfl))⟩
         case measure => simp [intOf]; omega
      ·have hyo : Box (y = (signB c || moreB c)) := box (by rw [hy.out, hmB.out, List.take_of_length_le (by have := hm9.out; omega)])
       clear hy
       cases y with
       | true =>
        have hA4 : Box (macc 1 false s.data.toList = macc h true (s.data.toList.drop (k + 1))) := box (by rw [hA3.out, Bool.true_and, ← hyo.out]; rfl)
        clear hA3
        go_wp2
        go_round
        case rel => exact ⟨k + 1, h, true, by omega, by omega, rfl, rfl, by go_num, hA4⟩
        case measure => simp [intOf]; omega
       | false =>
        have hfin : Box (R = false) := box (by rw [hRB.out, hA3.out, Bool.true_and, ← hyo.out]; rfl)
        clear hA3 hRB
        go_wp2
        go_ret
        exact ⟨by rw [hfin.out]; rfl, rfl⟩
  ·have hfin : Box (R = ((b && h == 2) && decide (s.size ≤ 127))) := box (by rw [hRB.out, hA.out, List.drop_of_length_le (by have := hlb.out; omega)]; rfl)
   clear hA hRB
   cases b with
   | false =>
    have hR : Box (R = false) := box (by rw [hfin.out]; rfl)
    go_wp2
    go_ret
    exact ⟨by rw [hR.out]; rfl, rfl⟩
   | true =>
    cases h2 : (h == 2) with
    | true =>
     obtain rfl : h = 2 := by simpa using h2
     by_cases h127 : s.size ≤ 127
     ·have hR : Box (R = true) := box (by rw [hfin.out, decide_eq_true h127]; rfl)
      clear hfin
      go_wp2
      go_ret
      exact ⟨ret1 (by rw [hR.out]; first | rfl | (simp; omega)), rfl⟩
     ·have hR : Box (R = false) := box (by rw [hfin.out, decide_eq_false h127]; rfl)
      clear hfin
      go_wp2
      go_ret
      exact ⟨ret1 (by rw [hR.out]; first | rfl | (simp; omega)), rfl⟩
    | false =>
     have hR : Box (R = false) := box (by rw [hfin.out, h2]; rfl)
     have hne : ((h : Int) == 2) = false := by rw [beq_eq_false_iff_ne] at h2 ⊢; omega
     clear hfin
     go_wp2
     go_ret
     exact ⟨by rw [hR.out]; rfl, rfl⟩
end Go.Proofs.YtlhicfpmlncomaaGreatDoor

namespace Go.Proofs.YtlhicfpmlncomaaGreatDoor
open Go.RowKit
end Go.Proofs.YtlhicfpmlncomaaGreatDoor

namespace Go.Proofs.YtlhicfpmlncomaaGreatDoor
open Go.RowKit
inductive FieldEq (P : Program) (xs ys : List Value) : Field → Bool → Prop
 | int {f : Field} {k k' : IntKind} {a b : Int} (hn : f.name ≠ "_") (ht : P.underlying f.type = some (.int k')) (hx : xs[f.offset]? = some (.int k a)) (hy : ys[f.offset]? = some (.int k b)) : FieldEq P xs ys f (a == b)
 | bool {f : Field} {a b : Bool} (hn : f.name ≠ "_") (ht : P.underlying f.type = some .bool) (hx : xs[f.offset]? = some (.bool a)) (hy : ys[f.offset]? = some (.bool b)) : FieldEq P xs ys f (a == b)
 | str {f : Field} {a b : ByteArray} (hn : f.name ≠ "_") (ht : P.underlying f.type = some .string) (hx : xs[f.offset]? = some (.string a)) (hy : ys[f.offset]? = some (.string b)) : FieldEq P xs ys f (a.toList == b.toList)
 | arr {f : Field} {n : Nat} {u8 : TypeId} {l m : List UInt8} (hn : f.name ≠ "_") (ht : P.underlying f.type = some (.array n u8)) (hs : (P.info? f.type).map (·.size) = some n) (hb : P.underlying u8 = some (.int .u8)) (h1 : (P.info? u8).map (·.size) = some 1)
  (hl : l.length = n) (hm : m.length = n) (hx : (xs.drop f.offset).take n = l.map bv) (hy : (ys.drop f.offset).take n = m.map bv) : FieldEq P xs ys f (l == m)
section
variable {P : Program} {o : Oper} {a : Act} {K : Act → World → Prop} {Q : Exit → Act → World → Prop}
theorem run_part1 {f : Field} {d : TypeDesc} {xs : List Value} {v : Value} (hu : P.underlying f.type = some d) (hd : aggT d = false) (hv : xs[f.offset]? = some v) (w : World) : (part f.type xs.toArray f.offset).run P w = .ok v w := by
 have hagg : (isAgg f.type).run P w = .ok false w := by rw [run_isAgg hu w, hd]
 simp [part, hagg, hv]
theorem run_partA {f : Field} {n : Nat} {u8 : TypeId} {xs ls : List Value} (hu : P.underlying f.type = some (.array n u8)) (hs : (P.info? f.type).map (·.size) = some n) (hv : (xs.drop f.offset).take n = ls) (w : World) : (part f.type xs.toArray f.offset).run P w = .ok (.agg ls.toArray) w := by
 have hagg : (isAgg f.type).run P w = .ok true w := by rw [run_isAgg hu w]; rfl
 obtain ⟨j, hj, hsz⟩ := Option.map_eq_some_iff.1 hs
 have hso : (sizeOf f.type).run P w = .ok n w := by simp [sizeOf, typeInfo, hj, hsz]
 have hex : xs.toArray.extract f.offset (f.offset + n) = ls.toArray := by
  apply Array.ext'
  rw [Array.toList_extract]
  simp only [List.extract]
  rw [Nat.add_sub_cancel_left]
  exact hv
 unfold part
 rw [Sem.run_bind, hagg, Result.andThen_ok]
 simp only [if_true, Sem.run_bind, hso, Result.andThen_ok, Sem.run_pure, hex]
theorem FieldEq.run {xs ys : List Value} {f : Field} {b : Bool} (h : FieldEq P xs ys f b) (k : Nat) (w : World) :
  f.name ≠ "_" ∧ ∃ u v, (part f.type xs.toArray f.offset).run P w = .ok u w ∧ (part f.type ys.toArray f.offset).run P w = .ok v w ∧ (Op.equalIn (k + 2) f.type u v).run P w = .ok b w := by
 cases h with
 | int hn ht hx hy => exact ⟨hn, _, _, run_part1 ht rfl hx w, run_part1 ht rfl hy w, run_equalIn_int w (k + 1) _ _ _ _ _ ht⟩
 | bool hn ht hx hy => exact ⟨hn, _, _, run_part1 ht rfl hx w, run_part1 ht rfl hy w, run_equalIn_bool' w (k + 1) _ _ _ ht⟩
 | str hn ht hx hy => exact ⟨hn, _, _, run_part1 ht rfl hx w, run_part1 ht rfl hy w, run_equalIn_string w (k + 1) _ _ _ ht⟩
 | arr hn ht hs hb h1 hl hm hx hy => exact ⟨hn, _, _, run_partA ht hs hx w, run_partA ht hs hy w, run_eqBytes ht hb h1 _ _ hl hm k w⟩
inductive FieldsEq (P : Program) (xs ys : List Value) : List Field → Bool → Prop
 | nil : FieldsEq P xs ys [] true
 | cons {f : Field} {fs : List Field} {b c : Bool} (h : FieldEq P xs ys f b) (hs : FieldsEq P xs ys fs c) : FieldsEq P xs ys (f :: fs) (b && c)
theorem FieldsEq.run {xs ys : List Value} (k : Nat) (w : World) : ∀ {fs : List Field} {b : Bool}, FieldsEq P xs ys fs b → (Op.eqFields (k + 2) xs.toArray ys.toArray fs).run P w = .ok b w := by
 intro fs b h
 induction h with
 | nil => simp [Op.eqFields]
 | cons h _ ih =>
  obtain ⟨hn, u, v, p1, p2, p3⟩ := h.run k w
  rename_i b c _
  simp only [Op.eqFields, hn, ne_eq, not_false_eq_true, if_true, Sem.run_bind, p1, p2, p3, Result.andThen_ok]
  cases b <;> simp [ih]
structure StructEq (P : Program) (t : TypeId) (xs ys : List Value) (b : Bool) : Prop where
 und : P.underlying t = some (.struct (P.fieldsOf t))
 stood : P.stoodInHeld t = false
 grd : P.eqGuardType P.depth t = false
 flds : FieldsEq P xs ys (P.fieldsOf t).toList b
theorem StructEq.run {t : TypeId} {xs ys : List Value} {b : Bool} (h : StructEq P t xs ys b) (k : Nat) (w : World) : (Op.equalIn (k + 3) t (.agg xs.toArray) (.agg ys.toArray)).run P w = .ok b w := by
 rw [run_equalIn_struct w (k + 2) t _ _ h.und h.stood]
 exact FieldsEq.run k w h.flds
end
end Go.Proofs.YtlhicfpmlncomaaGreatDoor

namespace Go.Proofs.YtlhicfpmlncomaaGreatDoor
open Go.RowKit
theorem VRd.parts {w : World} {S : Nat → Prop} {u : JV} {ci xs : List Value} {i : Nat} (h : VRd w S u ci) (hc : (xs.drop (i * 5)).take 5 = ci) :
  xs[i * 5]? = some (.int .i64 u.kind) ∧ xs[i * 5 + 1]? = some (.int .i64 u.num) ∧ xs[i * 5 + 2]? = some (.string ⟨u.text.toArray⟩) := by
 obtain ⟨k, n, t, ns, ks⟩ := u
 rw [VRd] at h
 obtain ⟨An, nn, cn, Ak, nk, ck, ys, hcn, hck, rfl, hrn, hrk, hvk⟩ := h
 have hg : ∀ j, j < 5 → xs[i * 5 + j]? = (vlL k n ⟨t.toArray⟩ (.slice An nn cn) (.slice Ak nk ck))[j]? := by
  intro j hj
  rw [← hc, List.getElem?_take, if_pos hj, List.getElem?_drop]
 exact ⟨hg 0 (by decide), hg 1 (by decide), hg 2 (by decide)⟩
theorem atp_fld (A : Option Addr) (i j : Nat) (hj : j ≠ 0) : (⟨(atp A i).block, (atp A i).off + j, none⟩ : Addr) = atp A (i + j) := by
 unfold atp Addr.add
 rw [if_neg (show ¬ i + j = 0 by omega)]
 by_cases h : i = 0
 ·subst h; rw [if_pos rfl, Nat.zero_add]
 ·rw [if_neg h, Nat.add_assoc]
theorem T_rnote15 : SlT Tryz.prog 35 149 2 32 (.agg #[.string ⟨#[]⟩, .string ⟨#[]⟩]) := ⟨uq35, by kernel_rfl, rfl, by decide⟩
end Go.Proofs.YtlhicfpmlncomaaGreatDoor

namespace Go.Proofs.YtlhicfpmlncomaaGreatDoor
open Go.RowKit
theorem take_snoc1 {α : Type} {l : List α} {i : Nat} {x : α} (h : l[i]? = some x) : l.take (i + 1) = l.take i ++ [x] := by rw [List.take_add_one, h]; rfl
theorem ntsL_key {l : List MNote} {i : Nat} {x : MNote} (h : l[i]? = some x) : (ntsL l)[i * 2]? = some (.string ⟨x.key.toArray⟩) := by
 have h1 := ntsL_at h
 have h2 := congrArg (fun z => z[0]?) h1
 simpa [List.getElem?_take, List.getElem?_drop, ntL, strv] using h2
theorem ntsL_val {l : List MNote} {i : Nat} {x : MNote} (h : l[i]? = some x) : (ntsL l)[i * 2 + 1]? = some (.string ⟨x.val.toArray⟩) := by
 have h1 := ntsL_at h
 have h2 := congrArg (fun z => z[1]?) h1
 simpa [List.getElem?_take, List.getElem?_drop, ntL, strv] using h2
def tMem (l : List MNote) : List (List UInt8 × JV) := l.map fun x => (x.key, jT x.val)
theorem tNotes_mem (l : List MNote) : tNotes l = .mk 6 0 [] ((tMem l).map (·.1)) ((tMem l).map (·.2)) := rfl
theorem tMem_snoc {l : List MNote} {i : Nat} {x : MNote} (h : l[i]? = some x) : tMem (l.take (i + 1)) = tMem (l.take i) ++ [(x.key, jT x.val)] := by
 unfold tMem
 rw [take_snoc1 h, List.map_append]
 rfl
theorem tWith_nil : tWith [] = [] := rfl
theorem tWith_some {l : List MNote} (h : l ≠ []) : tWith l = [(kNotes, tNotes l)] := if_neg h
theorem tperm {α : Type} (a b p g2 g1 n k : α) (es te : List α) : (a :: b :: p :: g2 :: g1 :: n :: k :: (es ++ te)).Perm (n :: k :: g2 :: p :: g1 :: (es ++ (a :: b :: te))) := by
 have h1 : (a :: b :: p :: g2 :: g1 :: n :: k :: (es ++ te)).Perm (a :: b :: (n :: k :: g2 :: p :: g1 :: (es ++ te))) := by
  refine List.Perm.cons _ (List.Perm.cons _ ?_)
  have h2 : (p :: g2 :: g1 :: n :: k :: (es ++ te)) = [p, g2, g1, n, k] ++ (es ++ te) := rfl
  have h3 : (n :: k :: g2 :: p :: g1 :: (es ++ te)) = [n, k, g2, p, g1] ++ (es ++ te) := rfl
  rw [h2, h3]
  refine List.Perm.append_right _ ?_
  have e1 : [p, g2, g1, n, k] = [p, g2, g1] ++ [n, k] := rfl
  rw [e1]
  refine List.perm_append_comm.trans ?_
  exact List.Perm.cons _ (List.Perm.cons _ (List.Perm.swap _ _ _))
 refine h1.trans ?_
 have h4 : (n :: k :: g2 :: p :: g1 :: (es ++ (a :: b :: te))) = ([n, k, g2, p, g1] ++ es) ++ ([a, b] ++ te) := by simp
 have h5 : (a :: b :: (n :: k :: g2 :: p :: g1 :: (es ++ te))) = [a, b] ++ (([n, k, g2, p, g1] ++ es) ++ te) := by simp
 rw [h4, h5]
 exact List.perm_append_comm_assoc _ _ _
def More (w0 : World) (es : List Ent) (num : Int) (t : ByteArray) (nn nk : Nat) (ns : List (List UInt8)) (xs : List Value) (ms : List (List UInt8 × JV)) (e : Ending) (w' : World) : Prop :=
 ∃ A1 c1 A2 c2 zs E2, nn + ms.length ≤ c1 ∧ nk + ms.length ≤ c2 ∧ e = .returned (.agg (vlL 6 num t (.slice A1 (nn + ms.length) c1) (.slice A2 (nk + ms.length) c2)).toArray) ∧ VTL (ms.map (·.2)) zs E2 ∧
  Fr [] w0 w' (.own w0.heap.size 9 1 (.slice A1 (nn + ms.length) c1) (nn + ms.length) ((ns ++ ms.map (·.1)).map strv) :: .own w0.heap.size 51 5 (.slice A2 (nk + ms.length) c2) (nk + ms.length) (xs ++ zs) :: (es ++ E2))
set_option maxRecDepth 20000 in
set_option maxHeartbeats 12800000 in
theorem rwith_any {w0 w : World} {es : List Ent} {num : Int} {t : ByteArray} {An Ak : Option Addr} {nn cn nk ck : Nat} {ns : List (List UInt8)} {xs : List Value} (l : List MNote) (Al : Option Addr) (nl cl : Nat)
  (hF : Fr [] w0 w (.own w0.heap.size 9 1 (.slice An nn cn) nn (ns.map strv) :: .own w0.heap.size 51 5 (.slice Ak nk ck) nk xs :: es)) (hnn : nn ≤ 1000) (hnk : nk ≤ 1000) (hcn : nn ≤ cn) (hck : nk ≤ ck) (hl : nl = l.length) (hll : nl ≤ 1000000) (hr : Rd w0 (· < w0.heap.size) Al 2 nl (ntsL l)) :
  Calls Tryz.prog 52 #[.agg (vlL 6 num t (.slice An nn cn) (.slice Ak nk ck)).toArray, .slice Al nl cl] w (More w0 es num t nn nk ns xs (tWith l)) := by
 by_cases hl0 : l = []
 ·subst hl0
  obtain rfl : nl = 0 := hl
  go_enter Tryz.func52, Tryz.ntmps52
  go_wp2_with (first | ((with_reducible refine lsx (wp_fbox hF (cs := (vlL 6 num t (.slice An nn cn) (.slice Ak nk ck))) rfl (by with_unfolding_all rfl) (by with_unfolding_all rfl) ?_)); intro w1 g1 hF1 hz1) | ((with_reducible refine lsx (wp_falloc hF1 (cs := vl0) (z := .agg (List.toArray (vl0))) rfl (by kernel_rfl) (by with_unfolding_all rfl) ?_)); intro w2 g2 hF2 hz2) | (with_reducible refine lsx (wp_fldA1 hF2 uq51 rfl (by with_unfolding_all exact ⟨_, rfl, rfl⟩) (ds := (vlL 6 num t (.slice An nn cn) (.slice Ak nk ck))) (by rw [vlL_len]; kernel_rfl) (take_all _) ?_)) | ((with_reducible refine lsx (wp_fstA0 hF2 (by with_unfolding_all exact ⟨_, _, rfl, rfl, rfl⟩) (by rw [vlL_len]; kernel_rfl) vlL_one vlL_fit vlL_spl ?_)); intro w3 hF3 hz3))
  exact bodyPost_ret (results_cellF rfl _ hF3 (i := 0) rfl rfl uq51 rfl (by rw [vlL_len]; kernel_rfl)) rfl (by
   unfold More
   exact ⟨An, cn, Ak, ck, [], [], hcn, hck, rfl, VTL.nil, by simpa [tWith_nil] using hF3.tail.tail⟩)
 ·have hlp : 0 < l.length := List.length_pos_iff.2 hl0
  have hq : ((nl : Int) == 0) = false := by rw [beq_eq_false_iff_ne]; omega
  have hw := tWith_some hl0
  replace hl := box hl
  replace hl0 := box hl0
  replace hw := box hw
  clear hlp
  go_enter Tryz.func52, Tryz.ntmps52
  go_wp2_with (first | ((with_reducible refine lsx (wp_fbox hF (cs := (vlL 6 num t (.slice An nn cn) (.slice Ak nk ck))) rfl (by with_unfolding_all rfl) (by with_unfolding_all rfl) ?_)); intro w1 g1 hF1 hz1) | ((with_reducible refine lsx (wp_falloc hF1 (cs := vl0) (z := .agg (List.toArray (vl0))) rfl (by kernel_rfl) (by with_unfolding_all rfl) ?_)); intro w2 g2 hF2 hz2) | (with_reducible refine lsx (wp_fbuild uq51 (z := .agg (List.toArray vl0)) (by kernel_rfl) (pl := vlP) (by kernel_rfl) (cs := (vlL 6 0 ⟨#[]⟩ (.slice none 0 0) (.slice none 0 0))) rfl (vs := [(0, .int .i64 6)]) (by with_unfolding_all rfl) (by with_unfolding_all rfl) ?_)) | ((with_reducible refine lsx (wp_falloc hF2 (cs := vl0) (z := .agg (List.toArray (vl0))) rfl (by kernel_rfl) (by with_unfolding_all rfl) ?_)); intro w3 g3 hF3 hz3) | ((with_reducible refine lsx (wp_fstA0 hF3 (by with_unfolding_all exact ⟨_, _, rfl, rfl, rfl⟩) (by rw [vlL_len]; kernel_rfl) vlL_one vlL_fit vlL_spl ?_)); intro w4 hF4 hz4))
  have hF5 := (hF4.none_ w0.heap.size 51 5).none_ w0.heap.size 9 1
  clear hF1 hF2 hF3 hF4
  go_loopg [6] nl (fun g iv wr => ∃ (i : Nat) (A : Option Addr) (c : Nat) (B : Option Addr) (d : Nat) (ys : List Value) (TE : List Ent), i ≤ nl ∧ Box (g = nl - i) ∧ iv = .int .i64 (i : Int) ∧ i ≤ c ∧ i ≤ d ∧ Box (VTL ((tMem (l.take i)).map (·.2)) ys TE) ∧ Fr [] w0 wr (.own w0.heap.size 9 1 (.slice A i c) i (((tMem (l.take i)).map (·.1)).map strv) :: .own w0.heap.size 51 5 (.slice B i d) i ys :: .blk g3 51 (vlL 6 0 ⟨#[]⟩ (.slice A i c) (.slice B i d)) :: .blk g2 51 vl0 :: .blk g1 51 (vlL 6 num t (.slice An nn cn) (.slice Ak nk ck)) :: .own w0.heap.size 9 1 (.slice An nn cn) nn (ns.map strv) :: .own w0.heap.size 51 5 (.slice Ak nk ck) nk xs :: (es ++ TE)))
  case atStart => exact ⟨0, none, 0, none, 0, [], [], by omega, box rfl, rfl, Nat.le_refl _, Nat.le_refl _, box VTL.nil, by simpa [tMem] using hF5⟩
  case round =>
   clear hF5 hF
   obtain ⟨i, A, c, B, d, ys, TE, hi, hgi, rfl, hic, hid, hT, hF⟩ := hrel
   have hkk : Box (_ = nl - i) := hgi
   clear hgi
   by_cases hlt : i < nl
   ·obtain ⟨x, hx'⟩ : ∃ x, l[i]? = some x := ⟨l[i]'(by rw [← hl.out]; exact hlt), by simp⟩
    have hx := box hx'
    have hxk := box (ntsL_key hx')
    have hxv := box (ntsL_val hx')
    have hrlb := box hr
    clear hx'
    go_upto_region 7 with fail
    have hFd := hF.drew
    clear hF
    refine wp_region_held (S := fun w' => Rd w' (· < w0.heap.size) Al 2 nl (ntsL l)) (by kernel_rfl) ?_
    change wpAnyH _ _ _ _ _ _ _ _ (World.drew _)
    refine tkp 1 (hr.below hFd.below) ?_
    (try simp only [zP, zQ, zS, zZ, zN])
    refine tkp 2 (hr.below hFd.below) ?_
    (try simp only [zP, zQ, zS, zZ, zN])
    refine tky 3 (y := yi_ix (by with_unfolding_all rfl) T_rnote15 (fun h => hrlb.out.some_ h) (k := i) (by with_unfolding_all exact ⟨_, _, _, _, rfl, rfl, rfl⟩) rfl (by omega)) (s := (hr.below hFd.below)) (h := ?_)
    (try simp only [zP, zQ, zS, zZ, zN])
    refine tkp 4 (hr.below hFd.below) ?_
    (try simp only [zP, zQ, zS, zZ, zN])
    refine tky 5 (y := yi_ld (by with_unfolding_all rfl) (j := i * 2) (fun _ h => h) uq9 rfl (by with_unfolding_all exact ⟨_, rfl, rfl⟩) hxk.out) (s := (hr.below hFd.below)) (h := ?_)
    (try simp only [zP, zQ, zS, zZ, zN])
    refine tkp 6 (hr.below hFd.below) ?_
    (try simp only [zP, zQ, zS, zZ, zN])
    refine tkp 7 (hr.below hFd.below) ?_
    (try simp only [zP, zQ, zS, zZ, zN])
    refine tky 8 (y := yi_ix (by with_unfolding_all rfl) T_rnote15 (fun h => hrlb.out.some_ h) (k := i) (by with_unfolding_all exact ⟨_, _, _, _, rfl, rfl, rfl⟩) rfl (by omega)) (s := (hr.below hFd.below)) (h := ?_)
    (try simp only [zP, zQ, zS, zZ, zN])
    refine tkp 9 (hr.below hFd.below) ?_
    (try simp only [zP, zQ, zS, zZ, zN])
    refine tky 10 (y := yi_ld (by with_unfolding_all rfl) (j := i * 2 + 1) (fun _ h => h) uq9 rfl (by with_unfolding_all exact ⟨_, rfl, congrArg (fun p => Value.pointer (some p)) (atp_fld Al (i * 2) 1 (by decide))⟩) hxv.out) (s := (hr.below hFd.below)) (h := ?_)
    (try simp only [zP, zQ, zS, zZ, zN])
    refine wpAnyH_ready (rs := [0, 11]) (by kernel_rfl) (by simp) ?_
    refine AllReadyH.cons (by simp only [List.getElem?_toArray, List.getElem?_cons_zero]; rfl) (fun K hK => ?_) ?_
    ·refine stp (by with_unfolding_all rfl) (wp_fldA hFd (i := 2) rfl uq51 rfl (by with_unfolding_all exact ⟨_, rfl, rfl⟩) (ds := (vlL 6 0 ⟨#[]⟩ (.slice A i c) (.slice B i d))) (by rw [vlL_len]; kernel_rfl) (take_all _) ?_)
     refine hK.out _ _ ((hr.below hFd.below)) (fun _ => ?_)
     clear hK K
     (try simp only [zP, zQ, zS, zZ, zN])
     refine rdy1 11 (fun K hK => ?_)
     refine stp (by with_unfolding_all rfl) (wp_call Tryz.func50 rfl (by with_unfolding_all rfl) (by with_unfolding_all rfl) (by with_unfolding_all rfl) (rtext_any x.val _) ?_)
     rintro e w31 ⟨rfl, hb31⟩
     refine ⟨_, rfl, ?_⟩
     have hF31 := hFd.call hb31
     refine hK.out _ _ ((hr.below hF31.below)) (fun _ => ?_)
     clear hK K
     (try simp only [zP, zQ, zS, zZ, zN])
     refine rdy1 12 (fun K hK => ?_)
     refine stp (by with_unfolding_all rfl) (wp_call Tryz.func49 rfl (by with_unfolding_all rfl) (by with_unfolding_all rfl) (by with_unfolding_all rfl) (rput_any x.key (vlL 4 0 ⟨x.val.toArray⟩ (.slice none 0 0) (.slice none 0 0)) hF31 (by omega) (by omega) rfl vlL_one) ?_)
     rintro e w32 ⟨A32, c32, B32, d32, hc32, hd32, rfl, hF32⟩
     refine ⟨_, rfl, ?_⟩
     refine hK.out _ _ ((hr.below hF32.below)) (fun _ => ?_)
     clear hK K
     (try simp only [zP, zQ, zS, zZ, zN])
     refine rdy1 13 (fun K hK => ?_)
     refine stp (by with_unfolding_all rfl) (wp_fstA hF32 (i := 2) rfl (ds := (vlL 6 0 ⟨#[]⟩ (.slice A32 (i + 1) c32) (.slice B32 (i + 1) d32))) (by with_unfolding_all exact ⟨_, _, rfl, rfl, rfl⟩) (by rw [vlL_len]; kernel_rfl) vlL_one vlL_fit ?_)
     intro w33 hF33 hz33
     (try simp only [zZ, zN] at hF33)
     rw [(vlL_spl (k' := 6) : spl _ 0 (vlL 6 0 ⟨#[]⟩ (.slice A32 (i + 1) c32) (.slice B32 (i + 1) d32)) = (vlL 6 0 ⟨#[]⟩ (.slice A32 (i + 1) c32) (.slice B32 (i + 1) d32)))] at hF33
     refine hK.out _ _ ((hr.below hF33.below)) (fun _ => ?_)
     clear hK K
     (try simp only [zP, zQ, zS, zZ, zN])
     refine wpAnyH_done (by kernel_rfl) ?_ _
     go_wp2_with fail
     go_roundg (nl - (i + 1))
     case rel => exact ⟨i + 1, A32, c32, B32, d32, ys ++ (vlL 4 0 ⟨x.val.toArray⟩ (.slice none 0 0) (.slice none 0 0)), TE ++ [.rd none 1 0 [], .rd none 5 0 []], by omega, box rfl, by go_num, hc32, hd32, box (by rw [tMem_snoc hx.out, List.map_append]; exact hT.out.snoc VT.leaf), ((hF33.pushNone 5).pushNone 1).perm (by rw [tMem_snoc hx.out, List.map_append]; refine (List.perm_append_comm (l₁ := [Ent.rd none 1 0 [], Ent.rd none 5 0 []])).trans (by simp))⟩
     case measure => have := hkk.out; omega
    refine AllReadyH.cons (by simp only [List.getElem?_toArray, List.getElem?_cons_zero, List.getElem?_cons_succ]; rfl) (fun K hK => ?_) ?_
    ·refine stp (by with_unfolding_all rfl) (wp_call Tryz.func50 rfl (by with_unfolding_all rfl) (by with_unfolding_all rfl) (by with_unfolding_all rfl) (rtext_any x.val _) ?_)
     rintro e w31 ⟨rfl, hb31⟩
     refine ⟨_, rfl, ?_⟩
     have hF31 := hFd.call hb31
     refine hK.out _ _ ((hr.below hF31.below)) (fun _ => ?_)
     clear hK K
     (try simp only [zP, zQ, zS, zZ, zN])
     refine rdy1 0 (fun K hK => ?_)
     refine stp (by with_unfolding_all rfl) (wp_fldA hF31 (i := 2) rfl uq51 rfl (by with_unfolding_all exact ⟨_, rfl, rfl⟩) (ds := (vlL 6 0 ⟨#[]⟩ (.slice A i c) (.slice B i d))) (by rw [vlL_len]; kernel_rfl) (take_all _) ?_)
     refine hK.out _ _ ((hr.below hF31.below)) (fun _ => ?_)
     clear hK K
     (try simp only [zP, zQ, zS, zZ, zN])
     refine rdy1 12 (fun K hK => ?_)
     refine stp (by with_unfolding_all rfl) (wp_call Tryz.func49 rfl (by with_unfolding_all rfl) (by with_unfolding_all rfl) (by with_unfolding_all rfl) (rput_any x.key (vlL 4 0 ⟨x.val.toArray⟩ (.slice none 0 0) (.slice none 0 0)) hF31 (by omega) (by omega) rfl vlL_one) ?_)
     rintro e w32 ⟨A32, c32, B32, d32, hc32, hd32, rfl, hF32⟩
     refine ⟨_, rfl, ?_⟩
     refine hK.out _ _ ((hr.below hF32.below)) (fun _ => ?_)
     clear hK K
     (try simp only [zP, zQ, zS, zZ, zN])
     refine rdy1 13 (fun K hK => ?_)
     refine stp (by with_unfolding_all rfl) (wp_fstA hF32 (i := 2) rfl (ds := (vlL 6 0 ⟨#[]⟩ (.slice A32 (i + 1) c32) (.slice B32 (i + 1) d32))) (by with_unfolding_all exact ⟨_, _, rfl, rfl, rfl⟩) (by rw [vlL_len]; kernel_rfl) vlL_one vlL_fit ?_)
     intro w33 hF33 hz33
     (try simp only [zZ, zN] at hF33)
     rw [(vlL_spl (k' := 6) : spl _ 0 (vlL 6 0 ⟨#[]⟩ (.slice A32 (i + 1) c32) (.slice B32 (i + 1) d32)) = (vlL 6 0 ⟨#[]⟩ (.slice A32 (i + 1) c32) (.slice B32 (i + 1) d32)))] at hF33
     refine hK.out _ _ ((hr.below hF33.below)) (fun _ => ?_)
     clear hK K
     (try simp only [zP, zQ, zS, zZ, zN])
     refine wpAnyH_done (by kernel_rfl) ?_ _
     go_wp2_with fail
     go_roundg (nl - (i + 1))
     case rel => exact ⟨i + 1, A32, c32, B32, d32, ys ++ (vlL 4 0 ⟨x.val.toArray⟩ (.slice none 0 0) (.slice none 0 0)), TE ++ [.rd none 1 0 [], .rd none 5 0 []], by omega, box rfl, by go_num, hc32, hd32, box (by rw [tMem_snoc hx.out, List.map_append]; exact hT.out.snoc VT.leaf), ((hF33.pushNone 5).pushNone 1).perm (by rw [tMem_snoc hx.out, List.map_append]; refine (List.perm_append_comm (l₁ := [Ent.rd none 1 0 [], Ent.rd none 5 0 []])).trans (by simp))⟩
     case measure => have := hkk.out; omega
    exact AllReadyH.nil
   ·obtain rfl : nl = i := by omega
    have htk : l.take nl = l := by rw [hl.out]; exact List.take_length
    rw [htk] at hT hF
    clear htk
    go_wp2_with (first | (with_reducible refine lsx (wp_fldA4 hF uq51 rfl (by with_unfolding_all exact ⟨_, rfl, rfl⟩) (ds := (vlL 6 num t (.slice An nn cn) (.slice Ak nk ck))) (by rw [vlL_len]; kernel_rfl) (take_all _) ?_)) | (with_reducible refine lsx (wp_fldA2 hF uq51 rfl (by with_unfolding_all exact ⟨_, rfl, rfl⟩) (ds := (vlL 6 0 ⟨#[]⟩ (.slice A nl c) (.slice B nl d))) (by rw [vlL_len]; kernel_rfl) (take_all _) ?_)))
    have hG := ((hF.toRd (i := 0) rfl).toRd (i := 1) rfl).perm (es' := .own w0.heap.size 9 1 (.slice An nn cn) nn (ns.map strv) :: .own w0.heap.size 51 5 (.slice Ak nk ck) nk xs :: .blk g2 51 vl0 :: .blk g3 51 (vlL 6 0 ⟨#[]⟩ (.slice A nl c) (.slice B nl d)) :: .blk g1 51 (vlL 6 num t (.slice An nn cn) (.slice Ak nk ck)) :: (es ++ (.rd A 1 nl (((tMem l).map (·.1)).map strv) :: .rd B 5 nl ys :: TE))) (by
     simp only [zZ, zN]
     exact tperm _ _ _ _ _ _ _ _ _)
    have hVN : VT (tNotes l) (vlL 6 0 ⟨#[]⟩ (.slice A nl c) (.slice B nl d)) (.rd A 1 nl (((tMem l).map (·.1)).map strv) :: .rd B 5 nl ys :: TE) := by
     rw [tNotes_mem]; exact VT.mk_ hic hid hT.out
    clear hF
    refine (rput_any kNotes _ hG (by omega) (by omega) rfl vlL_one).mono ?_
    rintro e w7 ⟨A7, c7, B7, d7, hc7, hd7, rfl, hF7⟩
    clear hG
    go_wp2_with (first | ((with_reducible refine lsx (wp_fstA2 hF7 (by with_unfolding_all exact ⟨_, _, rfl, rfl, rfl⟩) (by rw [vlL_len]; kernel_rfl) vlL_one vlL_fit vlL_spl ?_)); intro w8 hF8 hz8))
    exact bodyPost_ret (results_cellF rfl _ hF8 (i := 2) rfl rfl uq51 rfl (by rw [vlL_len]; kernel_rfl)) rfl (by
     unfold More
     rw [hw.out]
     exact ⟨A7, c7, B7, d7, _, _, hc7, hd7, rfl, VTL.snoc VTL.nil hVN, hF8.sub (List.Sublist.cons_cons _ (List.Sublist.cons_cons _ (List.Sublist.cons _ (List.Sublist.cons _ (List.Sublist.cons _ (List.Sublist.refl _))))))⟩)
end Go.Proofs.YtlhicfpmlncomaaGreatDoor

/-
 Layer 8, plain law: how much is told of a right document. No program is named here.
 Layer 8: what the law ManifestOrders swaps. A slice of numbers that came in; remainders and conversions in regions that draw their order.
 Layer 8: what the law ManifestLacks leaves out, and what it adds. Remainders, conversions; a struct built in a region that draws its order.
 Layer 8: the document's told, walked.
-/
import Derived.Test.YtlhicfpmlncomaaGreatDoorF12
import Derived.Test.YtlhicfpmlncomaaGreatDoorF14
import Derived.Test.YtlhicfpmlncomaaGreatDoorF05
import Derived.Test.YtlhicfpmlncomaaGreatDoorF11
import Derived.Test.YtlhicfpmlncomaaGreatDoorF02
import Derived.Test.YtlhicfpmlncomaaGreatDoorF13
import Derived.Test.YtlhicfpmlncomaaGreatDoorF00
set_option linter.unusedSimpArgs false
set_option linter.unusedVariables false
namespace Go.Proofs.YtlhicfpmlncomaaGreatDoor
open Go.RowKit
theorem dgT_len71 {d : List UInt8} (h : d.length = 32) : (dgT d).length = 71 := by unfold dgT; rw [List.length_append, hexL_len2, h]; rfl
mutual
theorem jW_txB : ∀ (v : JV), jW v ≤ 140737488355328 → JTx v
 | .mk k n t ns ks, h => by
  rw [jW] at h
  rw [JTx]
  exact ⟨by omega, fun s hs => by have := jWn_mem hs; omega, jWL_txB ks (by omega)⟩
theorem jWL_txB : ∀ (ks : List JV), jWL ks ≤ 140737488355328 → JTxL ks
 | [], _ => by rw [JTxL]; trivial
 | v :: vs, h => by
  rw [jWL] at h
  rw [JTxL]
  exact ⟨jW_txB v (by omega), jWL_txB vs (by omega)⟩
end
theorem JSmL_of : ∀ {ks : List JV}, (∀ v ∈ ks, JSm v) → JSmL ks
 | [], _ => by rw [JSmL]; trivial
 | v :: vs, h => by rw [JSmL]; exact ⟨h v List.mem_cons_self, JSmL_of fun x hx => h x (List.mem_cons_of_mem _ hx)⟩
theorem JIL_of : ∀ {ks : List JV}, (∀ v ∈ ks, JI v) → JIL ks
 | [], _ => by rw [JIL]; trivial
 | v :: vs, h => by rw [JIL]; exact ⟨h v List.mem_cons_self, JIL_of fun x hx => h x (List.mem_cons_of_mem _ hx)⟩
theorem jWL_sum : ∀ ks : List JV, jWL ks = (ks.map jW).sum
 | [] => rfl
 | v :: vs => by rw [jWL, List.map_cons, List.sum_cons, jWL_sum vs]
def mW (ms : List (List UInt8 × JV)) : Nat := (ms.map fun x => x.1.length + 1 + jW x.2).sum
theorem mW_app (a b : List (List UInt8 × JV)) : mW (a ++ b) = mW a + mW b := by unfold mW; rw [List.map_append, List.sum_append]
theorem mW_cons (x : List UInt8 × JV) (b : List (List UInt8 × JV)) : mW (x :: b) = x.1.length + 1 + jW x.2 + mW b := by unfold mW; rw [List.map_cons, List.sum_cons]
theorem mW_nil : mW [] = 0 := rfl
theorem jW_O (ms : List (List UInt8 × JV)) : jW (jO ms) = mW ms + 1 := by
 unfold jO
 rw [jW, jWL_sum, List.map_map, List.map_map]
 have : ∀ l : List (List UInt8 × JV), (l.map ((fun x => x.length + 1) ∘ fun x => x.1)).sum + (l.map (jW ∘ fun x => x.2)).sum = mW l := by
  intro l
  induction l with
  | nil => rfl
  | cons x l ih => rw [mW_cons, ← ih]; simp only [List.map_cons, List.sum_cons, Function.comp]; omega
 have h := this ms
 simp only [List.length_nil]
 omega
theorem jW_T (s : List UInt8) : jW (jT s) = s.length + 1 := by unfold jT; rw [jW, jWL]; simp
theorem jW_N (n : Int) : jW (jN n) = 1 := by unfold jN; rw [jW, jWL]; simp
theorem jW_L (ks : List JV) : jW (jL ks) = (ks.map jW).sum + 1 := by unfold jL; rw [jW, jWL_sum]; simp
theorem mW_notes : ∀ l : List MNote, mW (l.map fun x => (x.key, jT x.val)) = (l.map ntW).sum
 | [] => rfl
 | x :: l => by rw [List.map_cons, mW_cons, mW_notes l, jW_T, List.map_cons, List.sum_cons]; unfold ntW; simp only []; omega
theorem mW_with (l : List MNote) : mW (tWith l) ≤ (l.map ntW).sum + 13 := by
 unfold tWith
 split
 ·rw [mW_nil]; omega
 ·rw [mW_cons, mW_nil, show jW (tNotes l) = mW (l.map fun x => (x.key, jT x.val)) + 1 from jW_O _, mW_notes]
  have : kNotes.length = 11 := rfl
  simp only []
  omega
theorem jW_desc {d : MDesc} (h : d.dig.length = 32) : jW (tDesc d) ≤ dsW d + 120 := by
 unfold tDesc
 rw [jW_O, mW_app, mW_cons, mW_cons, mW_cons, mW_nil, jW_T, jW_T, jW_N, dgT_len71 h]
 have := mW_with d.notes
 have h1 : kMedia.length = 9 := rfl
 have h2 : kDigest.length = 6 := rfl
 have h3 : kSize.length = 4 := rfl
 unfold dsW
 simp only []
 omega
theorem sum_desc : ∀ {l : List MDesc}, (∀ x ∈ l, x.dig.length = 32) → ((l.map tDesc).map jW).sum ≤ (l.map dsW).sum + 120 * l.length
 | [], _ => by simp
 | x :: l, h => by
  have h1 := jW_desc (h x List.mem_cons_self)
  have h2 := sum_desc (l := l) (fun y hy => h y (List.mem_cons_of_mem _ hy))
  simp only [List.map_cons, List.sum_cons, List.length_cons]
  omega
theorem jW_tell {D : MDoc} (hr : mRight D) (hg : MDig D) : jW (mTell D) ≤ dcW D + 20000 := by
 obtain ⟨g1, g2, g3⟩ := hg
 have hed := hr.2.2.1
 have h0 := mW_with D.notes
 have h1 := jW_desc g1
 have h2 := jW_desc g2
 have h3 := sum_desc g3
 have e1 : mW (tType D.type) ≤ D.type.length + 20 := by
  unfold tType
  split
  ·rw [mW_nil]; omega
  ·rw [mW_cons, mW_nil, jW_T]
   have : kType.length = 12 := rfl
   simp only []
   omega
 have e2 : mW (tMain D) ≤ dsW D.config + (D.edges.map dsW).sum + 120 * D.edges.length + 200 := by
  unfold tMain
  split
  ·rw [mW_cons, mW_cons, mW_nil, jW_L]
   have a1 : kConfig.length = 6 := rfl
   have a2 : kLayers.length = 6 := rfl
   simp only []
   omega
  ·rw [mW_cons, mW_nil, jW_L]
   have a1 : kManifests.length = 9 := rfl
   simp only []
   omega
 have e3 : mW (tSubj D) ≤ dsW D.subject + 200 := by
  unfold tSubj
  split
  ·rw [mW_cons, mW_nil]
   have a1 : kSubject.length = 7 := rfl
   simp only []
   omega
  ·rw [mW_nil]; omega
 unfold mTell tMems
 rw [jW_O, mW_app, mW_app, mW_app, mW_app, mW_cons, mW_cons, mW_nil, jW_N, jW_T]
 have a1 : kVersion.length = 13 := rfl
 have a2 : kMedia.length = 9 := rfl
 unfold dcW
 simp only []
 omega
def MOk (v : JV) : Prop := JSm v ∧ JI v
theorem mok_T (s : List UInt8) : MOk (jT s) := ⟨by unfold jT; rw [JSm]; exact ⟨by simp, by simp, by rw [JSmL]; trivial⟩, by unfold jT; rw [JI]; exact ⟨by omega, by omega, by rw [JIL]; trivial⟩⟩
theorem mok_N {n : Int} (h : 0 ≤ n ∧ n ≤ 1099511627776) : MOk (jN n) := ⟨by unfold jN; rw [JSm]; exact ⟨by simp, by simp, by rw [JSmL]; trivial⟩, by unfold jN; rw [JI]; exact ⟨by omega, by omega, by rw [JIL]; trivial⟩⟩
theorem mok_O {ms : List (List UInt8 × JV)} (hl : ms.length ≤ 1048576) (h : ∀ x ∈ ms, MOk x.2) : MOk (jO ms) := by
 have hk : ∀ v ∈ ms.map (fun x => x.2), MOk v := fun v hv => by
  obtain ⟨x, hx, rfl⟩ := List.mem_map.1 hv
  exact h x hx
 refine ⟨?_, ?_⟩
 ·unfold jO; rw [JSm]; exact ⟨by rw [List.length_map]; exact hl, by rw [List.length_map]; exact hl, JSmL_of fun v hv => (hk v hv).1⟩
 ·unfold jO; rw [JI]; exact ⟨by omega, by omega, JIL_of fun v hv => (hk v hv).2⟩
theorem mok_L {ks : List JV} (hl : ks.length ≤ 1048576) (h : ∀ v ∈ ks, MOk v) : MOk (jL ks) := by
 refine ⟨?_, ?_⟩
 ·unfold jL; rw [JSm]; exact ⟨by simp, hl, JSmL_of fun v hv => (h v hv).1⟩
 ·unfold jL; rw [JI]; exact ⟨by omega, by omega, JIL_of fun v hv => (h v hv).2⟩
theorem mok_with {l : List MNote} (hl : l.length ≤ 32) : ∀ x ∈ tWith l, MOk x.2 := fun x hx => by
 unfold tWith at hx
 split at hx
 ·cases hx
 ·rw [List.mem_singleton.1 hx]
  refine mok_O (by rw [List.length_map]; omega) fun y hy => ?_
  obtain ⟨z, _, rfl⟩ := List.mem_map.1 hy
  exact mok_T _
theorem with_len (l : List MNote) : (tWith l).length ≤ 1 := by unfold tWith; split <;> simp
theorem mok_desc {d : MDesc} (hr : mRightD d) : MOk (tDesc d) := by
 have hwl := with_len d.notes
 refine mok_O (by simp; omega) fun x hx => ?_
 rcases List.mem_append.1 hx with hx | hx
 ·simp only [List.mem_cons, List.not_mem_nil, or_false] at hx
  rcases hx with rfl | rfl | rfl
  ·exact mok_T _
  ·exact mok_T _
  ·exact mok_N ⟨hr.2.1, hr.2.2.1⟩
 ·exact mok_with hr.2.2.2.1 x hx
theorem mems_len (D : MDoc) : (tMems D).length ≤ 8 := by
 have h1 := with_len D.notes
 have h2 : (tType D.type).length ≤ 1 := by unfold tType; split <;> simp
 have h3 : (tMain D).length ≤ 2 := by unfold tMain; split <;> simp
 have h4 : (tSubj D).length ≤ 1 := by unfold tSubj; split <;> simp
 unfold tMems
 simp only [List.length_append, List.length_cons, List.length_nil]
 omega
theorem mok_mems {D : MDoc} (hr : mRight D) : ∀ x ∈ tMems D, MOk x.2 := by
 obtain ⟨h1, h2, h3, h4, h5, h6, h7⟩ := hr
 have hl : MOk (jL (D.edges.map tDesc)) := mok_L (by rw [List.length_map]; omega) fun v hv => by
  obtain ⟨y, hy, rfl⟩ := List.mem_map.1 hv
  exact mok_desc (h5 y hy)
 intro x hx
 unfold tMems at hx
 simp only [List.mem_append, List.mem_cons, List.not_mem_nil, or_false] at hx
 rcases hx with (rfl | rfl) | hx | hx | hx | hx
 ·exact mok_N (by decide)
 ·exact mok_T _
 ·unfold tType at hx
  split at hx
  ·cases hx
  ·rw [List.mem_singleton.1 hx]; exact mok_T _
 ·unfold tMain at hx
  split at hx
  ·rename_i hi
   simp only [List.mem_cons, List.not_mem_nil, or_false] at hx
   rcases hx with rfl | rfl
   ·exact mok_desc (h6 hi)
   ·exact hl
  ·rw [List.mem_singleton.1 hx]; exact hl
 ·unfold tSubj at hx
  split at hx
  ·rename_i hh
   rw [List.mem_singleton.1 hx]; exact mok_desc (h7 hh)
  ·cases hx
 ·exact mok_with h4.1 x hx
structure WOk (v : JV) : Prop where
 sm : JSm v
 tx : JTx v
 fl : 6 * (jFull v).length ≤ 140737480000000
 tot : jTot v ≤ 10000000
theorem wok_of {v : JV} (h : MOk v) (hw : jW v ≤ 5000000) : WOk v := by
 have h1 := jW_full v h.2
 have h2 := jTot_w v
 exact ⟨h.1, jW_txB v (by omega), by omega, by omega⟩
theorem RdDoc.dig {w : World} {D : MDoc} {cs : List Value} (h : RdDoc w D cs) : MDig D := by
 obtain ⟨cf, eg, sj, nt, ⟨_, h1, _⟩, ⟨A, n, c, xs, _, _, _, _, h2⟩, ⟨_, h3, _⟩, _⟩ := h
 refine ⟨h1, h3, fun x hx => ?_⟩
 obtain ⟨i, hi⟩ := List.mem_iff_getElem?.1 hx
 exact (h2 i x hi).choose_spec.1
end Go.Proofs.YtlhicfpmlncomaaGreatDoor

namespace Go.Proofs.YtlhicfpmlncomaaGreatDoor
open Go.RowKit
section
open Go.ChangeShapes Go.WideShapes Go.ChangeAt
variable {H : Type} {enc : TypeId × Value → H} {P : Program} {W : World} {hd : Bool}
end
section
variable {P : Program} {o : Oper} {a : Act}
end
theorem spl_get {l ds : List Value} {j k : Nat} (h : j + ds.length ≤ l.length) : (spl l j ds)[k]? = if k < j then l[k]? else if k < j + ds.length then ds[k - j]? else l[k]? := by
 have hj : (l.take j).length = j := by rw [List.length_take]; omega
 have ha : (l.take j ++ ds).length = j + ds.length := by rw [List.length_append, hj]
 unfold spl
 split
 ·rw [List.getElem?_append_left (by omega), List.getElem?_append_left (by omega), List.getElem?_take, if_pos (by assumption)]
 ·split
  ·rw [List.getElem?_append_left (by omega), List.getElem?_append_right (by omega), hj]
  ·rw [List.getElem?_append_right (by omega), ha, List.getElem?_drop]
   congr 1
   omega
theorem spl_part {l ds : List Value} {j : Nat} (h : j + ds.length ≤ l.length) : ((spl l j ds).drop j).take ds.length = ds := by
 apply List.ext_getElem?
 intro q
 rw [List.getElem?_take]
 split
 ·rw [List.getElem?_drop, spl_get h, if_neg (by omega), if_pos (by omega)]
  congr 1
  omega
 ·rw [List.getElem?_eq_none (by omega)]
theorem spl_far {l ds : List Value} {j k m : Nat} (h : j + ds.length ≤ l.length) (hk : k + m ≤ j ∨ j + ds.length ≤ k) : ((spl l j ds).drop k).take m = (l.drop k).take m := by
 apply List.ext_getElem?
 intro q
 rw [List.getElem?_take, List.getElem?_take]
 split
 ·rw [List.getElem?_drop, List.getElem?_drop, spl_get h]
  split
  ·rfl
  ·rw [if_neg (by omega)]
 ·rfl
def nmL (ms : List (List UInt8 × JV)) : List Value := (ms.map (fun x => x.1)).map strv
theorem nmL_at {ms : List (List UInt8 × JV)} {j : Nat} {x : List UInt8 × JV} (h : ms[j]? = some x) : (nmL ms)[j]? = some (strv x.1) := by
 unfold nmL
 rw [List.getElem?_map, List.getElem?_map, h]
 rfl
def KL (ms : List (List UInt8 × JV)) (ys : List Value) (TE : List Ent) : Prop := ys.length = ms.length * 5 ∧ ∀ (i : Nat) (x : List UInt8 × JV), ms[i]? = some x → ∃ E, (∀ e ∈ E, e ∈ TE) ∧ VT x.2 ((ys.drop (i * 5)).take 5) E
theorem VTL.at : ∀ {ks : List JV} {xs : List Value} {TE : List Ent} {i : Nat} {v : JV}, VTL ks xs TE → ks[i]? = some v → ∃ E, (∀ e ∈ E, e ∈ TE) ∧ VT v ((xs.drop (i * 5)).take 5) E
 | [], _, _, _, _, _, h => by cases h
 | k :: ks, xs, TE, i, v, h, hi => by
  unfold VTL at h
  obtain ⟨cs, ys, E1, E2, rfl, rfl, h1, h2⟩ := h
  cases i with
  | zero =>
   injection hi with hi
   subst hi
   refine ⟨E1, fun e he => List.mem_append_left _ he, ?_⟩
   rw [Nat.zero_mul, List.drop_zero, List.take_left' h1.len]
   exact h1
  | succ i =>
   obtain ⟨E, hE, hv⟩ := h2.at (i := i) (by simpa using hi)
   refine ⟨E, fun e he => List.mem_append_right _ (hE e he), ?_⟩
   rw [show (i + 1) * 5 = cs.length + i * 5 by rw [h1.len]; omega, ← List.drop_drop, List.drop_left]
   exact hv
theorem KL.of {ms : List (List UInt8 × JV)} {ys : List Value} {TE : List Ent} (h : VTL (ms.map (fun x => x.2)) ys TE) : KL ms ys TE :=
 ⟨by rw [h.len, List.length_map], fun i x hi => h.at (i := i) (v := x.2) (by rw [List.getElem?_map, hi]; rfl)⟩
theorem KL.set {ms : List (List UInt8 × JV)} {ys cs : List Value} {TE E : List Ent} {i : Nat} {x : List UInt8 × JV} (h : KL ms ys TE) (hi : i < ms.length) (hv : VT x.2 cs E) (hE : ∀ e ∈ E, e ∈ TE) : KL (ms.set i x) (spl ys (i * 5) cs) TE := by
 have hl := hv.len
 have hb : i * 5 + cs.length ≤ ys.length := by rw [h.1, hl]; omega
 refine ⟨by rw [spl_length hb, h.1, List.length_set], fun j y hj => ?_⟩
 rw [List.getElem?_set] at hj
 split at hj
 ·rename_i hij
  subst hij
  injection hj with hj
  subst hj
  have := spl_part hb
  rw [hl] at this
  exact ⟨E, hE, by rw [this]; exact hv⟩
 ·rw [spl_far hb (by rw [hl]; omega)]
  exact h.2 j y hj
theorem KL.rdL {X : List Nat} {w0 w : World} {TE es : List Ent} (hF : Fr X w0 w es) (hs : ∀ e ∈ TE, e ∈ es) : ∀ {ms : List (List UInt8 × JV)} {ys : List Value}, KL ms ys TE → VRdL w (· < w.heap.size) (ms.map (fun x => x.2)) ys
 | [], ys, h => by
  rw [List.map_nil]
  unfold VRdL
  exact List.eq_nil_of_length_eq_zero (by simpa using h.1)
 | x :: ms, ys, h => by
  rw [List.map_cons]
  unfold VRdL
  obtain ⟨E, hE, hv⟩ := h.2 0 x rfl
  rw [Nat.zero_mul, List.drop_zero] at hv
  refine ⟨ys.take 5, ys.drop 5, (List.take_append_drop 5 ys).symm, hv.rdS hF (fun e he => hs e (hE e he)), KL.rdL hF hs ⟨by rw [List.length_drop, h.1, List.length_cons]; omega, fun i y hi => ?_⟩⟩
  have := h.2 (i + 1) y (by simpa using hi)
  rw [List.drop_drop, show 5 + i * 5 = (i + 1) * 5 by omega]
  exact this
end Go.Proofs.YtlhicfpmlncomaaGreatDoor

namespace Go.Proofs.YtlhicfpmlncomaaGreatDoor
open Go.RowKit
section
variable {P : Program} {o : Oper} {a : Act} {w : World} {K : Act → World → Prop} {Q : Exit → Act → World → Prop}
theorem wp_remK {t ty : TypeId} {x y : Operand} {k : IntKind} {m n q : Int} (ho : o.op = .binOp .rem t x y ty) (hx : a.eval x = .int k m) (hy : a.eval y = .int k n) (hn : n ≠ 0) (hq : m.tmod n = q) (hk : K (a.put o.dst (.int k q)) w) : o.wp P a w K Q := by
 subst hq
 refine wp_run (v := .int k (m.tmod n)) (w' := w) ?_ hk
 unfold execOp
 simp [ho, hx, hy, eqGuard, binOp, Op.intDiv, hn]
theorem wp_convK {s t : TypeId} {d : TypeDesc} {x : Operand} {k k' : IntKind} {m q : Int} (ho : o.op = .convert s t x) (hs : P.underlying s = some d) (ht : P.underlying t = some (.int k')) (hx : a.eval x = .int k m) (hq : k'.wrap m = q) (hk : K (a.put o.dst (.int k' q)) w) : o.wp P a w K Q := by
 subst hq
 refine wp_run (v := .int k' (k'.wrap m)) (w' := w) ?_ hk
 unfold execOp
 simp [ho, hx, convert, run_underlying hs, run_underlying ht, Conv.intToInt]
end
def lessL (ms : List (List UInt8 × JV)) (a i : Nat) : List (List UInt8 × JV) := (ms.take i).eraseIdx a
theorem lessL_zero (ms : List (List UInt8 × JV)) (a : Nat) : lessL ms a 0 = [] := by unfold lessL; rw [List.take_zero]; rfl
theorem lessL_at {ms : List (List UInt8 × JV)} {a : Nat} {x : List UInt8 × JV} (h : ms[a]? = some x) : lessL ms a (a + 1) = lessL ms a a := by
 have hl : a < ms.length := (List.getElem?_eq_some_iff.1 h).1
 have ht : (ms.take a).length = a := by rw [List.length_take]; omega
 unfold lessL
 rw [List.take_add_one, h]
 show (ms.take a ++ [x]).eraseIdx a = _
 rw [List.eraseIdx_append_of_length_le (by omega), ht, Nat.sub_self, List.eraseIdx_of_length_le (l := ms.take a) (by omega)]
 exact List.append_nil _
theorem lessL_ne {ms : List (List UInt8 × JV)} {a i : Nat} {x : List UInt8 × JV} (h : ms[i]? = some x) (hi : i ≠ a) : lessL ms a (i + 1) = lessL ms a i ++ [x] := by
 have hl : i < ms.length := (List.getElem?_eq_some_iff.1 h).1
 have ht : (ms.take i).length = i := by rw [List.length_take]; omega
 unfold lessL
 rw [List.take_add_one, h]
 show (ms.take i ++ [x]).eraseIdx a = _
 rcases Nat.lt_or_ge a i with h1 | h1
 ·rw [List.eraseIdx_append_of_lt_length (by omega)]
 ·rw [List.eraseIdx_append_of_length_le (by omega), ht, List.eraseIdx_of_length_le (l := ms.take i) (by omega), List.eraseIdx_of_length_le (l := [x]) (by simp; omega)]
theorem lessL_all {ms : List (List UInt8 × JV)} {a : Nat} {x : List UInt8 × JV} (h : ms[a]? = some x) : (x :: lessL ms a ms.length).Perm ms := by
 obtain ⟨hl, rfl⟩ := List.getElem?_eq_some_iff.1 h
 unfold lessL
 rw [List.take_length, List.eraseIdx_eq_take_drop_succ]
 have e : ms = ms.take a ++ ms[a] :: ms.drop (a + 1) := by rw [← List.drop_eq_getElem_cons hl, List.take_append_drop]
 have := List.perm_middle (a := ms[a]) (l₁ := ms.take a) (l₂ := ms.drop (a + 1))
 exact this.symm.trans (by rw [← e])
theorem KL.nil : KL [] [] [] := ⟨rfl, fun i x h => by cases h⟩
theorem KL.nilT (TE : List Ent) : KL [] [] TE := ⟨rfl, fun i x h => by cases h⟩
theorem KL.snoc {ms : List (List UInt8 × JV)} {ys cs : List Value} {TE E : List Ent} {x : List UInt8 × JV} (h : KL ms ys TE) (hv : VT x.2 cs E) (hE : ∀ e ∈ E, e ∈ TE) : KL (ms ++ [x]) (ys ++ cs) TE := by
 have hl := hv.len
 refine ⟨by rw [List.length_append, List.length_append, h.1, hl, List.length_singleton]; omega, fun i y hi => ?_⟩
 rcases Nat.lt_or_ge i ms.length with hlt | hge
 ·rw [List.getElem?_append_left hlt] at hi
  rw [List.drop_append_of_le_length (by rw [h.1]; omega), List.take_append_of_le_length (by rw [List.length_drop, h.1]; omega)]
  exact h.2 i y hi
 ·rw [List.getElem?_append_right hge] at hi
  have h0 : i - ms.length = 0 := by
   have := (List.getElem?_eq_some_iff.1 hi).1
   rw [List.length_singleton] at this
   omega
  rw [h0] at hi
  injection hi with hi
  subst hi
  refine ⟨E, hE, ?_⟩
  rw [show i * 5 = ys.length by rw [h.1]; omega, List.drop_left, List.take_of_length_le (by omega)]
  exact hv
theorem nmL_snoc (ms : List (List UInt8 × JV)) (x : List UInt8 × JV) : nmL (ms ++ [x]) = nmL ms ++ [strv x.1] := by
 unfold nmL
 rw [List.map_append, List.map_append]
 rfl
theorem mok_null : MOk .null := ⟨by unfold JV.null; rw [JSm]; exact ⟨by simp, by simp, by rw [JSmL]; trivial⟩, by unfold JV.null; rw [JI]; exact ⟨by omega, by omega, by rw [JIL]; trivial⟩⟩
theorem tell_okL {D : MDoc} {x : List UInt8 × JV} {ms : List (List UInt8 × JV)} (hr : mRight D) (hg : MDig D) (hw : dcW D ≤ 1048576) (hp : (x :: ms).Perm (tMems D)) : WOk (jO ms) := by
 have h1 := jW_tell hr hg
 have h2 : mW (x :: ms) = mW (tMems D) := by
  unfold mW
  rw [(hp.map _).sum_nat]
 have h3 : jW (mTell D) = mW (tMems D) + 1 := jW_O _
 rw [mW_cons] at h2
 have h4 := jW_O ms
 exact wok_of (mok_O (by have := hp.length_eq; have h5 := mems_len D; rw [List.length_cons] at this; omega) (fun y hy => mok_mems hr y (hp.mem_iff.1 (List.mem_cons_of_mem _ hy)))) (by omega)
theorem tell_okM {D : MDoc} {key : List UInt8} (hr : mRight D) (hg : MDig D) (hw : dcW D ≤ 1048576) (hk : key.length ≤ 1048576) : WOk (jO ((key, .null) :: tMems D)) := by
 have h1 := jW_tell hr hg
 have h3 : jW (mTell D) = mW (tMems D) + 1 := jW_O _
 have h4 := jW_O ((key, .null) :: tMems D)
 rw [mW_cons] at h4
 have h5 : jW .null = 1 := rfl
 refine wok_of (mok_O (by have h5 := mems_len D; rw [List.length_cons]; omega) (fun y hy => ?_)) (by simp only [h5] at h4; omega)
 rcases List.mem_cons.1 hy with rfl | hy
 ·exact mok_null
 ·exact mok_mems hr y hy
theorem VRd_null (w : World) (S : Nat → Prop) : VRd w S .null vl0 := by
 unfold JV.null VRd
 exact ⟨none, 0, 0, none, 0, 0, [], Nat.le_refl _, Nat.le_refl _, rfl, Rd.nil _ _ _ _, Rd.nil _ _ _ _, by unfold VRdL; rfl⟩
end Go.Proofs.YtlhicfpmlncomaaGreatDoor

namespace Go.Proofs.YtlhicfpmlncomaaGreatDoor
open Go.RowKit
theorem VTL.app : ∀ {ks ks' : List JV} {xs xs' : List Value} {TE TE' : List Ent}, VTL ks xs TE → VTL ks' xs' TE' → VTL (ks ++ ks') (xs ++ xs') (TE ++ TE')
 | [], ks', xs, xs', TE, TE', h, h' => by
  unfold VTL at h
  obtain ⟨rfl, rfl⟩ := h
  exact h'
 | k :: ks, ks', xs, xs', TE, TE', h, h' => by
  rw [VTL] at h
  obtain ⟨c1, ys, E1, E2, rfl, rfl, h1, h2⟩ := h
  rw [List.cons_append, VTL]
  exact ⟨c1, ys ++ xs', E1, E2 ++ TE', by simp, by simp, h1, VTL.app h2 h'⟩
theorem perm12 {α : Type} (a n k : α) (r : List α) : (a :: n :: k :: r).Perm (n :: k :: a :: r) := (List.Perm.swap _ _ _).trans ((List.Perm.swap _ _ _).cons _)
abbrev tLf : List Ent := [.rd none 1 0 [], .rd none 5 0 []]
theorem Fr.lf {X : List Nat} {w0 w : World} {es es' : List Ent} {a b : Ent} (h : Fr X w0 w (a :: b :: (es ++ es'))) : Fr X w0 w (a :: b :: ((es ++ tLf) ++ es')) :=
 ((h.pushNone 5).pushNone 1).perm (by
  have e1 : (Ent.rd none 1 0 [] :: Ent.rd none 5 0 [] :: a :: b :: (es ++ es')) = tLf ++ ((a :: b :: es) ++ es') := rfl
  have e2 : (a :: b :: ((es ++ tLf) ++ es')) = (a :: b :: es) ++ (tLf ++ es') := by simp
  rw [e1, e2]
  exact List.perm_append_comm_assoc _ _ _)
def TDesc (w : World) (v : JV) (e : Ending) (w' : World) : Prop := ∃ cs es, e = .returned (.agg cs.toArray) ∧ VT v cs es ∧ Fr [] w w' es
set_option maxRecDepth 20000 in
set_option maxHeartbeats 12800000 in
theorem rtold_any (d : MDesc) (cs : List Value) (w : World) (hD : RdD w d cs) (hB : d.notes.length ≤ 1000000) :
  Calls Tryz.prog 51 #[.agg cs.toArray] w (TDesc w (tDesc d)) := by
 obtain ⟨nt, hd', ⟨A, n, c, hnc, hn', rfl, hr'⟩, rfl⟩ := hD
 have htd : Box (tDesc d = .mk 6 0 [] (([] ++ [kMedia] ++ [kDigest] ++ [kSize]) ++ (tWith d.notes).map (·.1)) (([] ++ [jT d.media] ++ [jT (dgT d.dig)] ++ [jN d.size]) ++ (tWith d.notes).map (·.2))) := box (by
  show jO _ = _
  unfold jO
  rw [List.map_append, List.map_append]
  rfl)
 have hbd := box (show n ≤ 1000000 by omega)
 obtain ⟨m, hm⟩ : ∃ m, m = d.media := ⟨_, rfl⟩
 obtain ⟨dg, hdg⟩ : ∃ dg, dg = d.dig := ⟨_, rfl⟩
 obtain ⟨z, hz0⟩ : ∃ z, z = d.size := ⟨_, rfl⟩
 rw [← hm, ← hdg, ← hz0] at htd
 rw [← hm, ← hdg, ← hz0]
 rw [← hdg] at hd'
 clear hm hdg hz0
 have hd := box hd'
 have hr := box hr'
 have hn := box hn'
 have hdl := box (dsL_len (m := m) (z := z) (nt := .slice A n c) hd')
 clear hd' hr' hn' hB
 have hF0 := Fr.nil w
 go_enter Tryz.func51, Tryz.ntmps51
 go_wp2_with (first | ((with_reducible refine lsx (wp_fbox hF0 (cs := (dsL m dg z (.slice A n c))) rfl (by with_unfolding_all rfl) (by with_unfolding_all rfl) ?_)); intro w1 g1 hF1 hz1) | ((with_reducible refine lsx (wp_falloc hF1 (cs := vl0) (z := .agg (List.toArray (vl0))) rfl (by kernel_rfl) (by with_unfolding_all rfl) ?_)); intro w2 g2 hF2 hz2) | (with_reducible refine lsx (wp_fbuild uq51 (z := .agg (List.toArray vl0)) (by kernel_rfl) (pl := vlP) (by kernel_rfl) (cs := vl0) rfl (vs := []) (by with_unfolding_all rfl) (by with_unfolding_all rfl) ?_)) | (with_reducible refine lsx (wp_fld1 hF2 uq9 rfl (by with_unfolding_all exact ⟨_, rfl, rfl⟩) dsL_m0 ?_)))
 refine (rtext_any m _).mono ?_
 rintro e w3 ⟨rfl, hb3⟩
 have hF3 := hF2.call hb3
 have hF4 := (hF3.none_ w.heap.size 51 5).none_ w.heap.size 9 1
 clear hF0 hF1 hF2 hF3
 go_wp2_with fail
 refine (rput_any (ns := []) kMedia (vlL 4 0 ⟨(m).toArray⟩ (.slice none 0 0) (.slice none 0 0)) hF4 (by omega) (by omega) rfl vlL_one).mono ?_
 rintro e w5 ⟨A5, c5, B5, d5, hc5, hd5, rfl, hF5⟩
 clear hF4
 go_upto_region 2 with (first | ((with_reducible refine lsx (wp_falloc hF5 (cs := vl0) (z := .agg (List.toArray (vl0))) rfl (by kernel_rfl) (by with_unfolding_all rfl) ?_)); intro w6 g6 hF6 hz6) | ((with_reducible refine lsx (wp_fstA0 hF6 (by with_unfolding_all exact ⟨_, _, rfl, rfl, rfl⟩) (by rw [vlL_len]; kernel_rfl) vlL_one vlL_fit vlL_spl ?_)); intro w7 hF7 hz7))
 have hF8 := hF7.perm (perm12 _ _ _ _)
 have hFd := hF8.drew
 clear hF5 hF6 hF7 hF8
 refine wp_region_held (S := fun w' => w'.heap[g1]? = some (.cells (List.toArray (dsL m dg z (.slice A n c))) 37 (0, 0))) (by kernel_rfl) ?_
 change wpAnyH _ _ _ _ _ _ _ _ (World.drew _)
 refine tkp 1 (hFd.blk (i := 4) rfl) ?_
 (try simp only [zP, zQ, zS, zZ, zN])
 refine tky 2 (y := yi_fldA (by with_unfolding_all rfl) (fun _ h => h) uq24 rfl (by with_unfolding_all exact ⟨_, rfl, rfl⟩) (ds := (dg.map bv)) (by rw [List.length_map, hd.out]; kernel_rfl) (by rw [List.length_map, hd.out]; exact dsL_dig hd.out)) (s := (hFd.blk (i := 4) rfl)) (h := ?_)
 (try simp only [zP, zQ, zS, zZ, zN])
 refine wpAnyH_ready (rs := [0, 3]) (by kernel_rfl) (by simp) ?_
 refine AllReadyH.cons (by simp only [List.getElem?_toArray, List.getElem?_cons_zero]; rfl) (fun K hK => ?_) ?_
 ·refine stp (by with_unfolding_all rfl) (wp_fldA hFd (i := 2) rfl uq51 rfl (by with_unfolding_all exact ⟨_, rfl, rfl⟩) (ds := (vlL 6 0 ⟨#[]⟩ (.slice A5 (0 + 1) c5) (.slice B5 (0 + 1) d5))) (by rw [vlL_len]; kernel_rfl) (take_all _) ?_)
  refine hK.out _ _ ((hFd.blk (i := 4) rfl)) (fun _ => ?_)
  clear hK K
  (try simp only [zP, zQ, zS, zZ, zN])
  refine rdy1 3 (fun K hK => ?_)
  refine stp (by with_unfolding_all rfl) (wp_call Tryz.func78 rfl (by with_unfolding_all rfl) (by with_unfolding_all rfl) (by with_unfolding_all rfl) (dgTextF_any dg _ hd.out) ?_)
  rintro e w31 ⟨rfl, hb31⟩
  refine ⟨_, rfl, ?_⟩
  have hF31 := hFd.call hb31
  refine hK.out _ _ ((hF31.blk (i := 4) rfl)) (fun _ => ?_)
  clear hK K
  (try simp only [zP, zQ, zS, zZ, zN])
  refine rdy1 4 (fun K hK => ?_)
  refine stp (by with_unfolding_all rfl) (wp_call Tryz.func50 rfl (by with_unfolding_all rfl) (by with_unfolding_all rfl) (by with_unfolding_all rfl) (rtext_any (dgT dg) _) ?_)
  rintro e w32 ⟨rfl, hb32⟩
  refine ⟨_, rfl, ?_⟩
  have hF32 := hF31.call hb32
  refine hK.out _ _ ((hF32.blk (i := 4) rfl)) (fun _ => ?_)
  clear hK K
  (try simp only [zP, zQ, zS, zZ, zN])
  refine rdy1 5 (fun K hK => ?_)
  refine stp (by with_unfolding_all rfl) (wp_call Tryz.func49 rfl (by with_unfolding_all rfl) (by with_unfolding_all rfl) (by with_unfolding_all rfl) (rput_any kDigest (vlL 4 0 ⟨(dgT dg).toArray⟩ (.slice none 0 0) (.slice none 0 0)) hF32 (by omega) (by omega) rfl vlL_one) ?_)
  rintro e w33 ⟨A33, c33, B33, d33, hc33, hd33, rfl, hF33⟩
  refine ⟨_, rfl, ?_⟩
  refine hK.out _ _ ((hF33.blk (i := 4) rfl)) (fun _ => ?_)
  clear hK K
  (try simp only [zP, zQ, zS, zZ, zN])
  refine rdy1 6 (fun K hK => ?_)
  refine stp (by with_unfolding_all rfl) (wp_fstA hF33 (i := 2) rfl (ds := (vlL 6 0 ⟨#[]⟩ (.slice A33 (0 + 1 + 1) c33) (.slice B33 (0 + 1 + 1) d33))) (by with_unfolding_all exact ⟨_, _, rfl, rfl, rfl⟩) (by rw [vlL_len]; kernel_rfl) vlL_one vlL_fit ?_)
  intro w34 hF34 hz34
  (try simp only [zZ, zN] at hF34)
  rw [(vlL_spl (k' := 6) : spl _ 0 (vlL 6 0 ⟨#[]⟩ (.slice A33 (0 + 1 + 1) c33) (.slice B33 (0 + 1 + 1) d33)) = (vlL 6 0 ⟨#[]⟩ (.slice A33 (0 + 1 + 1) c33) (.slice B33 (0 + 1 + 1) d33)))] at hF34
  refine hK.out _ _ ((hF34.blk (i := 4) rfl)) (fun _ => ?_)
  clear hK K
  (try simp only [zP, zQ, zS, zZ, zN])
  refine wpAnyH_done (by kernel_rfl) ?_ _
  go_wp2_with (first | (with_reducible refine lsx (wp_fldA2 hF34 uq51 rfl (by with_unfolding_all exact ⟨_, rfl, rfl⟩) (ds := (vlL 6 0 ⟨#[]⟩ (.slice A33 (0 + 1 + 1) c33) (.slice B33 (0 + 1 + 1) d33))) (by rw [vlL_len]; kernel_rfl) (take_all _) ?_)) | (with_reducible refine lsx (wp_fld4 hF34 uq3 rfl (by with_unfolding_all exact ⟨_, rfl, rfl⟩) (dsL_size hd.out) ?_)) | (with_reducible refine lsx (wp_fbuild uq51 (z := .agg (List.toArray vl0)) (by kernel_rfl) (pl := vlP) (by kernel_rfl) (cs := (vlL 3 z ⟨#[]⟩ (.slice none 0 0) (.slice none 0 0))) rfl (vs := [(0, .int .i64 3), (1, .int .i64 z)]) (by with_unfolding_all rfl) (by with_unfolding_all rfl) ?_)))
  refine (rput_any kSize (vlL 3 z ⟨#[]⟩ (.slice none 0 0) (.slice none 0 0)) hF34 (by omega) (by omega) rfl vlL_one).mono ?_
  rintro e w50 ⟨A50, c50, B50, d50, hc50, hd50, rfl, hF50⟩
  go_wp2_with (first | ((with_reducible refine lsx (wp_fstA2 hF50 (by with_unfolding_all exact ⟨_, _, rfl, rfl, rfl⟩) (by rw [vlL_len]; kernel_rfl) vlL_one vlL_fit vlL_spl ?_)); intro w51 hF51 hz51) | (with_reducible refine lsx (wp_fldA2 hF51 uq51 rfl (by with_unfolding_all exact ⟨_, rfl, rfl⟩) (ds := (vlL 6 0 ⟨#[]⟩ (.slice A50 (0 + 1 + 1 + 1) c50) (.slice B50 (0 + 1 + 1 + 1) d50))) (by rw [vlL_len]; kernel_rfl) (take_all _) ?_)) | (with_reducible refine lsx (wp_fld4 hF51 uq35 rfl (by with_unfolding_all exact ⟨_, rfl, rfl⟩) (dsL_notes hd.out) ?_)))
  refine (rwith_any d.notes A n c hF51 (by omega) (by omega) hc50 hd50 hn.out hbd.out hr.out).mono ?_
  rintro e w52 ⟨A52, c52, B52, d52, zs, E2, hc52, hd52, rfl, hz, hF52⟩
  go_wp2_with (first | ((with_reducible refine lsx (wp_fstA3 hF52 (by with_unfolding_all exact ⟨_, _, rfl, rfl, rfl⟩) (by rw [vlL_len]; kernel_rfl) vlL_one vlL_fit vlL_spl ?_)); intro w53 hF53 hz53))
  exact bodyPost_ret (results_cellF rfl _ hF53 (i := 3) rfl rfl uq51 rfl (by rw [vlL_len]; kernel_rfl)) rfl (by
   unfold TDesc
   have hG := (((hF53.toRd (i := 0) rfl).toRd (i := 1) rfl).sub (es' := .rd A52 1 (0 + 1 + 1 + 1 + (tWith d.notes).length) ((([] ++ [kMedia] ++ [kDigest] ++ [kSize]) ++ (tWith d.notes).map (fun x : List UInt8 × JV => x.1)).map strv) :: .rd B52 5 (0 + 1 + 1 + 1 + (tWith d.notes).length) ((([] ++ (vlL 4 0 ⟨(m).toArray⟩ (.slice none 0 0) (.slice none 0 0)) ++ (vlL 4 0 ⟨(dgT dg).toArray⟩ (.slice none 0 0) (.slice none 0 0))) ++ (vlL 3 z ⟨#[]⟩ (.slice none 0 0) (.slice none 0 0))) ++ zs) :: E2) (List.Sublist.cons_cons _ (List.Sublist.cons_cons _ (List.Sublist.cons _ (List.Sublist.cons _ (List.Sublist.cons _ (List.Sublist.refl _)))))))
   refine ⟨_, _, rfl, ?_, (Fr.lf (es := tLf ++ tLf) (Fr.lf (es := tLf) (Fr.lf (es := []) hG)))⟩
   rw [htd.out]
   exact VT.mk_ (t := []) hc52 hd52 (VTL.app (((VTL.nil.snoc VT.leaf).snoc VT.leaf).snoc VT.leaf) hz))
 refine AllReadyH.cons (by simp only [List.getElem?_toArray, List.getElem?_cons_zero, List.getElem?_cons_succ]; rfl) (fun K hK => ?_) ?_
 ·refine stp (by with_unfolding_all rfl) (wp_call Tryz.func78 rfl (by with_unfolding_all rfl) (by with_unfolding_all rfl) (by with_unfolding_all rfl) (dgTextF_any dg _ hd.out) ?_)
  rintro e w31 ⟨rfl, hb31⟩
  refine ⟨_, rfl, ?_⟩
  have hF31 := hFd.call hb31
  refine hK.out _ _ ((hF31.blk (i := 4) rfl)) (fun _ => ?_)
  clear hK K
  (try simp only [zP, zQ, zS, zZ, zN])
  refine wpAnyH_ready (rs := [0, 4]) (by kernel_rfl) (by simp) ?_
  refine AllReadyH.cons (by simp only [List.getElem?_toArray, List.getElem?_cons_zero]; rfl) (fun K hK => ?_) ?_
  ·refine stp (by with_unfolding_all rfl) (wp_fldA hF31 (i := 2) rfl uq51 rfl (by with_unfolding_all exact ⟨_, rfl, rfl⟩) (ds := (vlL 6 0 ⟨#[]⟩ (.slice A5 (0 + 1) c5) (.slice B5 (0 + 1) d5))) (by rw [vlL_len]; kernel_rfl) (take_all _) ?_)
   refine hK.out _ _ ((hF31.blk (i := 4) rfl)) (fun _ => ?_)
   clear hK K
   (try simp only [zP, zQ, zS, zZ, zN])
   refine rdy1 4 (fun K hK => ?_)
   refine stp (by with_unfolding_all rfl) (wp_call Tryz.func50 rfl (by with_unfolding_all rfl) (by with_unfolding_all rfl) (by with_unfolding_all rfl) (rtext_any (dgT dg) _) ?_)
   rintro e w32 ⟨rfl, hb32⟩
   refine ⟨_, rfl, ?_⟩
   have hF32 := hF31.call hb32
   refine hK.out _ _ ((hF32.blk (i := 4) rfl)) (fun _ => ?_)
   clear hK K
   (try simp only [zP, zQ, zS, zZ, zN])
   refine rdy1 5 (fun K hK => ?_)
   refine stp (by with_unfolding_all rfl) (wp_call Tryz.func49 rfl (by with_unfolding_all rfl) (by with_unfolding_all rfl) (by with_unfolding_all rfl) (rput_any kDigest (vlL 4 0 ⟨(dgT dg).toArray⟩ (.slice none 0 0) (.slice none 0 0)) hF32 (by omega) (by omega) rfl vlL_one) ?_)
   rintro e w33 ⟨A33, c33, B33, d33, hc33, hd33, rfl, hF33⟩
   refine ⟨_, rfl, ?_⟩
   refine hK.out _ _ ((hF33.blk (i := 4) rfl)) (fun _ => ?_)
   clear hK K
   (try simp only [zP, zQ, zS, zZ, zN])
   refine rdy1 6 (fun K hK => ?_)
   refine stp (by with_unfolding_all rfl) (wp_fstA hF33 (i := 2) rfl (ds := (vlL 6 0 ⟨#[]⟩ (.slice A33 (0 + 1 + 1) c33) (.slice B33 (0 + 1 + 1) d33))) (by with_unfolding_all exact ⟨_, _, rfl, rfl, rfl⟩) (by rw [vlL_len]; kernel_rfl) vlL_one vlL_fit ?_)
   intro w34 hF34 hz34
   (try simp only [zZ, zN] at hF34)
   rw [(vlL_spl (k' := 6) : spl _ 0 (vlL 6 0 ⟨#[]⟩ (.slice A33 (0 + 1 + 1) c33) (.slice B33 (0 + 1 + 1) d33)) = (vlL 6 0 ⟨#[]⟩ (.slice A33 (0 + 1 + 1) c33) (.slice B33 (0 + 1 + 1) d33)))] at hF34
   refine hK.out _ _ ((hF34.blk (i := 4) rfl)) (fun _ => ?_)
   clear hK K
   (try simp only [zP, zQ, zS, zZ, zN])
   refine wpAnyH_done (by kernel_rfl) ?_ _
   go_wp2_with (first | (with_reducible refine lsx (wp_fldA2 hF34 uq51 rfl (by with_unfolding_all exact ⟨_, rfl, rfl⟩) (ds := (vlL 6 0 ⟨#[]⟩ (.slice A33 (0 + 1 + 1) c33) (.slice B33 (0 + 1 + 1) d33))) (by rw [vlL_len]; kernel_rfl) (take_all _) ?_)) | (with_reducible refine lsx (wp_fld4 hF34 uq3 rfl (by with_unfolding_all exact ⟨_, rfl, rfl⟩) (dsL_size hd.out) ?_)) | (with_reducible refine lsx (wp_fbuild uq51 (z := .agg (List.toArray vl0)) (by kernel_rfl) (pl := vlP) (by kernel_rfl) (cs := (vlL 3 z ⟨#[]⟩ (.slice none 0 0) (.slice none 0 0))) rfl (vs := [(0, .int .i64 3), (1, .int .i64 z)]) (by with_unfolding_all rfl) (by with_unfolding_all rfl) ?_)))
   refine (rput_any kSize (vlL 3 z ⟨#[]⟩ (.slice none 0 0) (.slice none 0 0)) hF34 (by omega) (by omega) rfl vlL_one).mono ?_
   rintro e w50 ⟨A50, c50, B50, d50, hc50, hd50, rfl, hF50⟩
   go_wp2_with (first | ((with_reducible refine lsx (wp_fstA2 hF50 (by with_unfolding_all exact ⟨_, _, rfl, rfl, rfl⟩) (by rw [vlL_len]; kernel_rfl) vlL_one vlL_fit vlL_spl ?_)); intro w51 hF51 hz51) | (with_reducible refine lsx (wp_fldA2 hF51 uq51 rfl (by with_unfolding_all exact ⟨_, rfl, rfl⟩) (ds := (vlL 6 0 ⟨#[]⟩ (.slice A50 (0 + 1 + 1 + 1) c50) (.slice B50 (0 + 1 + 1 + 1) d50))) (by rw [vlL_len]; kernel_rfl) (take_all _) ?_)) | (with_reducible refine lsx (wp_fld4 hF51 uq35 rfl (by with_unfolding_all exact ⟨_, rfl, rfl⟩) (dsL_notes hd.out) ?_)))
   refine (rwith_any d.notes A n c hF51 (by omega) (by omega) hc50 hd50 hn.out hbd.out hr.out).mono ?_
   rintro e w52 ⟨A52, c52, B52, d52, zs, E2, hc52, hd52, rfl, hz, hF52⟩
   go_wp2_with (first | ((with_reducible refine lsx (wp_fstA3 hF52 (by with_unfolding_all exact ⟨_, _, rfl, rfl, rfl⟩) (by rw [vlL_len]; kernel_rfl) vlL_one vlL_fit vlL_spl ?_)); intro w53 hF53 hz53))
   exact bodyPost_ret (results_cellF rfl _ hF53 (i := 3) rfl rfl uq51 rfl (by rw [vlL_len]; kernel_rfl)) rfl (by
    unfold TDesc
    have hG := (((hF53.toRd (i := 0) rfl).toRd (i := 1) rfl).sub (es' := .rd A52 1 (0 + 1 + 1 + 1 + (tWith d.notes).length) ((([] ++ [kMedia] ++ [kDigest] ++ [kSize]) ++ (tWith d.notes).map (fun x : List UInt8 × JV => x.1)).map strv) :: .rd B52 5 (0 + 1 + 1 + 1 + (tWith d.notes).length) ((([] ++ (vlL 4 0 ⟨(m).toArray⟩ (.slice none 0 0) (.slice none 0 0)) ++ (vlL 4 0 ⟨(dgT dg).toArray⟩ (.slice none 0 0) (.slice none 0 0))) ++ (vlL 3 z ⟨#[]⟩ (.slice none 0 0) (.slice none 0 0))) ++ zs) :: E2) (List.Sublist.cons_cons _ (List.Sublist.cons_cons _ (List.Sublist.cons _ (List.Sublist.cons _ (List.Sublist.cons _ (List.Sublist.refl _)))))))
    refine ⟨_, _, rfl, ?_, (Fr.lf (es := tLf ++ tLf) (Fr.lf (es := tLf) (Fr.lf (es := []) hG)))⟩
    rw [htd.out]
    exact VT.mk_ (t := []) hc52 hd52 (VTL.app (((VTL.nil.snoc VT.leaf).snoc VT.leaf).snoc VT.leaf) hz))
  refine AllReadyH.cons (by simp only [List.getElem?_toArray, List.getElem?_cons_zero, List.getElem?_cons_succ]; rfl) (fun K hK => ?_) ?_
  ·refine stp (by with_unfolding_all rfl) (wp_call Tryz.func50 rfl (by with_unfolding_all rfl) (by with_unfolding_all rfl) (by with_unfolding_all rfl) (rtext_any (dgT dg) _) ?_)
   rintro e w32 ⟨rfl, hb32⟩
   refine ⟨_, rfl, ?_⟩
   have hF32 := hF31.call hb32
   refine hK.out _ _ ((hF32.blk (i := 4) rfl)) (fun _ => ?_)
   clear hK K
   (try simp only [zP, zQ, zS, zZ, zN])
   refine rdy1 0 (fun K hK => ?_)
   refine stp (by with_unfolding_all rfl) (wp_fldA hF32 (i := 2) rfl uq51 rfl (by with_unfolding_all exact ⟨_, rfl, rfl⟩) (ds := (vlL 6 0 ⟨#[]⟩ (.slice A5 (0 + 1) c5) (.slice B5 (0 + 1) d5))) (by rw [vlL_len]; kernel_rfl) (take_all _) ?_)
   refine hK.out _ _ ((hF32.blk (i := 4) rfl)) (fun _ => ?_)
   clear hK K
   (try simp only [zP, zQ, zS, zZ, zN])
   refine rdy1 5 (fun K hK => ?_)
   refine stp (by with_unfolding_all rfl) (wp_call Tryz.func49 rfl (by with_unfolding_all rfl) (by with_unfolding_all rfl) (by with_unfolding_all rfl) (rput_any kDigest (vlL 4 0 ⟨(dgT dg).toArray⟩ (.slice none 0 0) (.slice none 0 0)) hF32 (by omega) (by omega) rfl vlL_one) ?_)
   rintro e w33 ⟨A33, c33, B33, d33, hc33, hd33, rfl, hF33⟩
   refine ⟨_, rfl, ?_⟩
   refine hK.out _ _ ((hF33.blk (i := 4) rfl)) (fun _ => ?_)
   clear hK K
   (try simp only [zP, zQ, zS, zZ, zN])
   refine rdy1 6 (fun K hK => ?_)
   refine stp (by with_unfolding_all rfl) (wp_fstA hF33 (i := 2) rfl (ds := (vlL 6 0 ⟨#[]⟩ (.slice A33 (0 + 1 + 1) c33) (.slice B33 (0 + 1 + 1) d33))) (by with_unfolding_all exact ⟨_, _, rfl, rfl, rfl⟩) (by rw [vlL_len]; kernel_rfl) vlL_one vlL_fit ?_)
   intro w34 hF34 hz34
   (try simp only [zZ, zN] at hF34)
   rw [(vlL_spl (k' := 6) : spl _ 0 (vlL 6 0 ⟨#[]⟩ (.slice A33 (0 + 1 + 1) c33) (.slice B33 (0 + 1 + 1) d33)) = (vlL 6 0 ⟨#[]⟩ (.slice A33 (0 + 1 + 1) c33) (.slice B33 (0 + 1 + 1) d33)))] at hF34
   refine hK.out _ _ ((hF34.blk (i := 4) rfl)) (fun _ => ?_)
   clear hK K
   (try simp only [zP, zQ, zS, zZ, zN])
   refine wpAnyH_done (by kernel_rfl) ?_ _
   go_wp2_with (first | (with_reducible refine lsx (wp_fldA2 hF34 uq51 rfl (by with_unfolding_all exact ⟨_, rfl, rfl⟩) (ds := (vlL 6 0 ⟨#[]⟩ (.slice A33 (0 + 1 + 1) c33) (.slice B33 (0 + 1 + 1) d33))) (by rw [vlL_len]; kernel_rfl) (take_all _) ?_)) | (with_reducible refine lsx (wp_fld4 hF34 uq3 rfl (by with_unfolding_all exact ⟨_, rfl, rfl⟩) (dsL_size hd.out) ?_)) | (with_reducible refine lsx (wp_fbuild uq51 (z := .agg (List.toArray vl0)) (by kernel_rfl) (pl := vlP) (by kernel_rfl) (cs := (vlL 3 z ⟨#[]⟩ (.slice none 0 0) (.slice none 0 0))) rfl (vs := [(0, .int .i64 3), (1, .int .i64 z)]) (by with_unfolding_all rfl) (by with_unfolding_all rfl) ?_)))
   refine (rput_any kSize (vlL 3 z ⟨#[]⟩ (.slice none 0 0) (.slice none 0 0)) hF34 (by omega) (by omega) rfl vlL_one).mono ?_
   rintro e w50 ⟨A50, c50, B50, d50, hc50, hd50, rfl, hF50⟩
   go_wp2_with (first | ((with_reducible refine lsx (wp_fstA2 hF50 (by with_unfolding_all exact ⟨_, _, rfl, rfl, rfl⟩) (by rw [vlL_len]; kernel_rfl) vlL_one vlL_fit vlL_spl ?_)); intro w51 hF51 hz51) | (with_reducible refine lsx (wp_fldA2 hF51 uq51 rfl (by with_unfolding_all exact ⟨_, rfl, rfl⟩) (ds := (vlL 6 0 ⟨#[]⟩ (.slice A50 (0 + 1 + 1 + 1) c50) (.slice B50 (0 + 1 + 1 + 1) d50))) (by rw [vlL_len]; kernel_rfl) (take_all _) ?_)) | (with_reducible refine lsx (wp_fld4 hF51 uq35 rfl (by with_unfolding_all exact ⟨_, rfl, rfl⟩) (dsL_notes hd.out) ?_)))
   refine (rwith_any d.notes A n c hF51 (by omega) (by omega) hc50 hd50 hn.out hbd.out hr.out).mono ?_
   rintro e w52 ⟨A52, c52, B52, d52, zs, E2, hc52, hd52, rfl, hz, hF52⟩
   go_wp2_with (first | ((with_reducible refine lsx (wp_fstA3 hF52 (by with_unfolding_all exact ⟨_, _, rfl, rfl, rfl⟩) (by rw [vlL_len]; kernel_rfl) vlL_one vlL_fit vlL_spl ?_)); intro w53 hF53 hz53))
   exact bodyPost_ret (results_cellF rfl _ hF53 (i := 3) rfl rfl uq51 rfl (by rw [vlL_len]; kernel_rfl)) rfl (by
    unfold TDesc
    have hG := (((hF53.toRd (i := 0) rfl).toRd (i := 1) rfl).sub (es' := .rd A52 1 (0 + 1 + 1 + 1 + (tWith d.notes).length) ((([] ++ [kMedia] ++ [kDigest] ++ [kSize]) ++ (tWith d.notes).map (fun x : List UInt8 × JV => x.1)).map strv) :: .rd B52 5 (0 + 1 + 1 + 1 + (tWith d.notes).length) ((([] ++ (vlL 4 0 ⟨(m).toArray⟩ (.slice none 0 0) (.slice none 0 0)) ++ (vlL 4 0 ⟨(dgT dg).toArray⟩ (.slice none 0 0) (.slice none 0 0))) ++ (vlL 3 z ⟨#[]⟩ (.slice none 0 0) (.slice none 0 0))) ++ zs) :: E2) (List.Sublist.cons_cons _ (List.Sublist.cons_cons _ (List.Sublist.cons _ (List.Sublist.cons _ (List.Sublist.cons _ (List.Sublist.refl _)))))))
    refine ⟨_, _, rfl, ?_, (Fr.lf (es := tLf ++ tLf) (Fr.lf (es := tLf) (Fr.lf (es := []) hG)))⟩
    rw [htd.out]
    exact VT.mk_ (t := []) hc52 hd52 (VTL.app (((VTL.nil.snoc VT.leaf).snoc VT.leaf).snoc VT.leaf) hz))
  exact AllReadyH.nil
 exact AllReadyH.nil
end Go.Proofs.YtlhicfpmlncomaaGreatDoor

/-
 Layer 8, plain law: how much is told of a right document. No program is named here.
 Layer 6: the program's Write within a frame; what is known of a value that was read.
 Layer 8: the program's Write, walked.
 A slice literal of one reckoned byte. No program is named here.
 Layer 6: the document's Decimal, walked.
 Layer 6: the document's quote, walked.
-/
import Derived.Test.YtlhicfpmlncomaaGreatDoorK15
import Derived.Test.YtlhicfpmlncomaaGreatDoorK20
import Derived.Test.YtlhicfpmlncomaaGreatDoorK16
import Derived.Test.YtlhicfpmlncomaaGreatDoorK02
import Derived.Test.YtlhicfpmlncomaaGreatDoorK19
import Derived.Test.YtlhicfpmlncomaaGreatDoorK14
import Derived.Test.YtlhicfpmlncomaaGreatDoorK12
import Derived.Test.YtlhicfpmlncomaaGreatDoorK00
set_option linter.unusedSimpArgs false
set_option linter.unusedVariables false
namespace Go.Proofs.YtlhicfpmlncomaaGreatDoor
open Go.RowKit
theorem dgT_len71 {d : List UInt8} (h : d.length = 32) : (dgT d).length = 71 := by unfold dgT; rw [List.length_append, hexL_len2, h]; rfl
mutual
theorem jW_txB : ∀ (v : JV), jW v ≤ 140737488355328 → JTx v
 | .mk k n t ns ks, h => by
  rw [jW] at h
  rw [JTx]
  exact ⟨by omega, fun s hs => by have := jWn_mem hs; omega, jWL_txB ks (by omega)⟩
theorem jWL_txB : ∀ (ks : List JV), jWL ks ≤ 140737488355328 → JTxL ks
 | [], _ => by rw [JTxL]; trivial
 | v :: vs, h => by
  rw [jWL] at h
  rw [JTxL]
  exact ⟨jW_txB v (by omega), jWL_txB vs (by omega)⟩
end
theorem JSmL_of : ∀ {ks : List JV}, (∀ v ∈ ks, JSm v) → JSmL ks
 | [], _ => by rw [JSmL]; trivial
 | v :: vs, h => by rw [JSmL]; exact ⟨h v List.mem_cons_self, JSmL_of fun x hx => h x (List.mem_cons_of_mem _ hx)⟩
theorem JIL_of : ∀ {ks : List JV}, (∀ v ∈ ks, JI v) → JIL ks
 | [], _ => by rw [JIL]; trivial
 | v :: vs, h => by rw [JIL]; exact ⟨h v List.mem_cons_self, JIL_of fun x hx => h x (List.mem_cons_of_mem _ hx)⟩
theorem jWL_sum : ∀ ks : List JV, jWL ks = (ks.map jW).sum
 | [] => rfl
 | v :: vs => by rw [jWL, List.map_cons, List.sum_cons, jWL_sum vs]
def mW (ms : List (List UInt8 × JV)) : Nat := (ms.map fun x => x.1.length + 1 + jW x.2).sum
theorem mW_app (a b : List (List UInt8 × JV)) : mW (a ++ b) = mW a + mW b := by unfold mW; rw [List.map_append, List.sum_append]
theorem mW_cons (x : List UInt8 × JV) (b : List (List UInt8 × JV)) : mW (x :: b) = x.1.length + 1 + jW x.2 + mW b := by unfold mW; rw [List.map_cons, List.sum_cons]
theorem mW_nil : mW [] = 0 := rfl
theorem jW_O (ms : List (List UInt8 × JV)) : jW (jO ms) = mW ms + 1 := by
 unfold jO
 rw [jW, jWL_sum, List.map_map, List.map_map]
 have : ∀ l : List (List UInt8 × JV), (l.map ((fun x => x.length + 1) ∘ fun x => x.1)).sum + (l.map (jW ∘ fun x => x.2)).sum = mW l := by
  intro l
  induction l with
  | nil => rfl
  | cons x l ih => rw [mW_cons, ← ih]; simp only [List.map_cons, List.sum_cons, Function.comp]; omega
 have h := this ms
 simp only [List.length_nil]
 omega
theorem jW_T (s : List UInt8) : jW (jT s) = s.length + 1 := by unfold jT; rw [jW, jWL]; simp
theorem jW_N (n : Int) : jW (jN n) = 1 := by unfold jN; rw [jW, jWL]; simp
theorem jW_L (ks : List JV) : jW (jL ks) = (ks.map jW).sum + 1 := by unfold jL; rw [jW, jWL_sum]; simp
theorem mW_notes : ∀ l : List MNote, mW (l.map fun x => (x.key, jT x.val)) = (l.map ntW).sum
 | [] => rfl
 | x :: l => by rw [List.map_cons, mW_cons, mW_notes l, jW_T, List.map_cons, List.sum_cons]; unfold ntW; simp only []; omega
theorem mW_with (l : List MNote) : mW (tWith l) ≤ (l.map ntW).sum + 13 := by
 unfold tWith
 split
 ·rw [mW_nil]; omega
 ·rw [mW_cons, mW_nil, show jW (tNotes l) = mW (l.map fun x => (x.key, jT x.val)) + 1 from jW_O _, mW_notes]
  have : kNotes.length = 11 := rfl
  simp only []
  omega
theorem jW_desc {d : MDesc} (h : d.dig.length = 32) : jW (tDesc d) ≤ dsW d + 120 := by
 unfold tDesc
 rw [jW_O, mW_app, mW_cons, mW_cons, mW_cons, mW_nil, jW_T, jW_T, jW_N, dgT_len71 h]
 have := mW_with d.notes
 have h1 : kMedia.length = 9 := rfl
 have h2 : kDigest.length = 6 := rfl
 have h3 : kSize.length = 4 := rfl
 unfold dsW
 simp only []
 omega
theorem sum_desc : ∀ {l : List MDesc}, (∀ x ∈ l, x.dig.length = 32) → ((l.map tDesc).map jW).sum ≤ (l.map dsW).sum + 120 * l.length
 | [], _ => by simp
 | x :: l, h => by
  have h1 := jW_desc (h x List.mem_cons_self)
  have h2 := sum_desc (l := l) (fun y hy => h y (List.mem_cons_of_mem _ hy))
  simp only [List.map_cons, List.sum_cons, List.length_cons]
  omega
theorem jW_tell {D : MDoc} (hr : mRight D) (hg : MDig D) : jW (mTell D) ≤ dcW D + 20000 := by
 obtain ⟨g1, g2, g3⟩ := hg
 have hed := hr.2.2.1
 have h0 := mW_with D.notes
 have h1 := jW_desc g1
 have h2 := jW_desc g2
 have h3 := sum_desc g3
 have e1 : mW (tType D.type) ≤ D.type.length + 20 := by
  unfold tType
  split
  ·rw [mW_nil]; omega
  ·rw [mW_cons, mW_nil, jW_T]
   have : kType.length = 12 := rfl
   simp only []
   omega
 have e2 : mW (tMain D) ≤ dsW D.config + (D.edges.map dsW).sum + 120 * D.edges.length + 200 := by
  unfold tMain
  split
  ·rw [mW_cons, mW_cons, mW_nil, jW_L]
   have a1 : kConfig.length = 6 := rfl
   have a2 : kLayers.length = 6 := rfl
   simp only []
   omega
  ·rw [mW_cons, mW_nil, jW_L]
   have a1 : kManifests.length = 9 := rfl
   simp only []
   omega
 have e3 : mW (tSubj D) ≤ dsW D.subject + 200 := by
  unfold tSubj
  split
  ·rw [mW_cons, mW_nil]
   have a1 : kSubject.length = 7 := rfl
   simp only []
   omega
  ·rw [mW_nil]; omega
 unfold mTell tMems
 rw [jW_O, mW_app, mW_app, mW_app, mW_app, mW_cons, mW_cons, mW_nil, jW_N, jW_T]
 have a1 : kVersion.length = 13 := rfl
 have a2 : kMedia.length = 9 := rfl
 unfold dcW
 simp only []
 omega
def MOk (v : JV) : Prop := JSm v ∧ JI v
theorem mok_T (s : List UInt8) : MOk (jT s) := ⟨by unfold jT; rw [JSm]; exact ⟨by simp, by simp, by rw [JSmL]; trivial⟩, by unfold jT; rw [JI]; exact ⟨by omega, by omega, by rw [JIL]; trivial⟩⟩
theorem mok_N {n : Int} (h : 0 ≤ n ∧ n ≤ 1099511627776) : MOk (jN n) := ⟨by unfold jN; rw [JSm]; exact ⟨by simp, by simp, by rw [JSmL]; trivial⟩, by unfold jN; rw [JI]; exact ⟨by omega, by omega, by rw [JIL]; trivial⟩⟩
theorem mok_O {ms : List (List UInt8 × JV)} (hl : ms.length ≤ 1048576) (h : ∀ x ∈ ms, MOk x.2) : MOk (jO ms) := by
 have hk : ∀ v ∈ ms.map (fun x => x.2), MOk v := fun v hv => by
  obtain ⟨x, hx, rfl⟩ := List.mem_map.1 hv
  exact h x hx
 refine ⟨?_, ?_⟩
 ·unfold jO; rw [JSm]; exact ⟨by rw [List.length_map]; exact hl, by rw [List.length_map]; exact hl, JSmL_of fun v hv => (hk v hv).1⟩
 ·unfold jO; rw [JI]; exact ⟨by omega, by omega, JIL_of fun v hv => (hk v hv).2⟩
theorem mok_L {ks : List JV} (hl : ks.length ≤ 1048576) (h : ∀ v ∈ ks, MOk v) : MOk (jL ks) := by
 refine ⟨?_, ?_⟩
 ·unfold jL; rw [JSm]; exact ⟨by simp, hl, JSmL_of fun v hv => (h v hv).1⟩
 ·unfold jL; rw [JI]; exact ⟨by omega, by omega, JIL_of fun v hv => (h v hv).2⟩
theorem mok_with {l : List MNote} (hl : l.length ≤ 32) : ∀ x ∈ tWith l, MOk x.2 := fun x hx => by
 unfold tWith at hx
 split at hx
 ·cases hx
 ·rw [List.mem_singleton.1 hx]
  refine mok_O (by rw [List.length_map]; omega) fun y hy => ?_
  obtain ⟨z, _, rfl⟩ := List.mem_map.1 hy
  exact mok_T _
theorem with_len (l : List MNote) : (tWith l).length ≤ 1 := by unfold tWith; split <;> simp
theorem mok_desc {d : MDesc} (hr : mRightD d) : MOk (tDesc d) := by
 have hwl := with_len d.notes
 refine mok_O (by simp; omega) fun x hx => ?_
 rcases List.mem_append.1 hx with hx | hx
 ·simp only [List.mem_cons, List.not_mem_nil, or_false] at hx
  rcases hx with rfl | rfl | rfl
  ·exact mok_T _
  ·exact mok_T _
  ·exact mok_N ⟨hr.2.1, hr.2.2.1⟩
 ·exact mok_with hr.2.2.2.1 x hx
theorem mems_len (D : MDoc) : (tMems D).length ≤ 8 := by
 have h1 := with_len D.notes
 have h2 : (tType D.type).length ≤ 1 := by unfold tType; split <;> simp
 have h3 : (tMain D).length ≤ 2 := by unfold tMain; split <;> simp
 have h4 : (tSubj D).length ≤ 1 := by unfold tSubj; split <;> simp
 unfold tMems
 simp only [List.length_append, List.length_cons, List.length_nil]
 omega
theorem mok_mems {D : MDoc} (hr : mRight D) : ∀ x ∈ tMems D, MOk x.2 := by
 obtain ⟨h1, h2, h3, h4, h5, h6, h7⟩ := hr
 have hl : MOk (jL (D.edges.map tDesc)) := mok_L (by rw [List.length_map]; omega) fun v hv => by
  obtain ⟨y, hy, rfl⟩ := List.mem_map.1 hv
  exact mok_desc (h5 y hy)
 intro x hx
 unfold tMems at hx
 simp only [List.mem_append, List.mem_cons, List.not_mem_nil, or_false] at hx
 rcases hx with (rfl | rfl) | hx | hx | hx | hx
 ·exact mok_N (by decide)
 ·exact mok_T _
 ·unfold tType at hx
  split at hx
  ·cases hx
  ·rw [List.mem_singleton.1 hx]; exact mok_T _
 ·unfold tMain at hx
  split at hx
  ·rename_i hi
   simp only [List.mem_cons, List.not_mem_nil, or_false] at hx
   rcases hx with rfl | rfl
   ·exact mok_desc (h6 hi)
   ·exact hl
  ·rw [List.mem_singleton.1 hx]; exact hl
 ·unfold tSubj at hx
  split at hx
  ·rename_i hh
   rw [List.mem_singleton.1 hx]; exact mok_desc (h7 hh)
  ·cases hx
 ·exact mok_with h4.1 x hx
structure WOk (v : JV) : Prop where
 sm : JSm v
 tx : JTx v
 fl : 6 * (jFull v).length ≤ 140737480000000
 tot : jTot v ≤ 10000000
theorem wok_of {v : JV} (h : MOk v) (hw : jW v ≤ 5000000) : WOk v := by
 have h1 := jW_full v h.2
 have h2 := jTot_w v
 exact ⟨h.1, jW_txB v (by omega), by omega, by omega⟩
theorem tell_ok {D : MDoc} (hr : mRight D) (hg : MDig D) (hw : dcW D ≤ 1048576) : WOk (mTell D) :=
 wok_of (mok_O (Nat.le_trans (mems_len D) (by decide)) (mok_mems hr)) (by have := jW_tell hr hg; omega)
theorem RdDoc.dig {w : World} {D : MDoc} {cs : List Value} (h : RdDoc w D cs) : MDig D := by
 obtain ⟨cf, eg, sj, nt, ⟨_, h1, _⟩, ⟨A, n, c, xs, _, _, _, _, h2⟩, ⟨_, h3, _⟩, _⟩ := h
 refine ⟨h1, h3, fun x hx => ?_⟩
 obtain ⟨i, hi⟩ := List.mem_iff_getElem?.1 hx
 exact (h2 i x hi).choose_spec.1
end Go.Proofs.YtlhicfpmlncomaaGreatDoor

namespace Go.Proofs.YtlhicfpmlncomaaGreatDoor
open Go.RowKit
theorem VT.rdF {v : JV} {cs : List Value} {es' es : List Ent} {X : List Nat} {w0 w : World} (h : VT v cs es') (hF : Fr X w0 w es) (hs : ∀ e ∈ es', e ∈ es) : VRd w (· < w.heap.size) v cs :=
 VT.rd v h fun e he => by
  obtain ⟨i, hi⟩ := List.mem_iff_getElem?.1 (hs e he)
  exact ⟨hF.holds i e hi, fun b hb => Ent.lt (hF.holds i e hi) hb⟩
def WriteEndF (X : List Nat) (w0 : World) (es : List Ent) (r : List UInt8 × Nat) (e : Ending) (w' : World) : Prop :=
 ∃ A n c, e = .returned (.tuple #[.slice A n c, .int .i64 (r.2 : Int)]) ∧ n = r.1.length ∧ n ≤ c ∧ Fr X w0 w' (.rd A 1 n (r.1.map bv) :: es)
theorem write_F {X : List Nat} {w0 w : World} {es : List Ent} {B : Nat} (hF : Fr X w0 w es) (hL : LibsAt B w) (hB : B ≤ w.heap.size) {v : JV} {cs : List Value} (hv : VRd w (· < w.heap.size) v cs) (hsm : JSm v) (htx : JTx v) (hfl : 6 * (jFull v).length ≤ 140737480000000) :
  Calls Tryz.prog 61 #[.agg cs.toArray] w (WriteEndF X w0 es (jWrite v)) := by
 refine (write_any v cs w (hL.up hB) hv hsm htx hfl).mono ?_
 rintro e w' ⟨u, rfl, hF'⟩
 obtain ⟨A, c, rfl, hc, hr⟩ := (hF'.own (i := 0) rfl).arg
 have h1 := hF'.toRd (i := 0) rfl
 simp only [List.set_cons_zero] at h1
 exact ⟨A, _, c, rfl, rfl, hc, hF.join h1⟩
end Go.Proofs.YtlhicfpmlncomaaGreatDoor

namespace Go.Proofs.YtlhicfpmlncomaaGreatDoor
open Go.RowKit
def OMid (w : World) (g1 go b : Nat) (doc : List Value) (ms : List (List UInt8 × JV)) (wx : World) : Prop :=
 ∃ (nn : Nat) (A : Option Addr) (c : Nat) (B : Option Addr) (d : Nat) (ys : List Value) (TE : List Ent), nn = ms.length ∧ nn ≤ b ∧ nn ≤ c ∧ nn ≤ d ∧ VTL (ms.map (fun x => x.2)) ys TE ∧
  Fr [] w wx (.own w.heap.size 9 1 (.slice A nn c) nn ((ms.map (fun x => x.1)).map strv) :: .own w.heap.size 76 5 (.slice B nn d) nn ys :: .blk go 116 (vlL 6 0 ⟨#[]⟩ (.slice A nn c) (.slice B nn d)) :: .blk g1 31 doc :: TE)
theorem OMid.put {w : World} {g1 go b nn : Nat} {doc : List Value} {ms : List (List UInt8 × JV)} {wx : World} {A B : Option Addr} {c d : Nat} {ys cs : List Value} {TE es : List Ent} {s : List UInt8} {v : JV} (hnn : nn = ms.length) (hb : nn + 1 ≤ b) (hc : nn + 1 ≤ c) (hd : nn + 1 ≤ d) (hT : VTL (ms.map (fun x => x.2)) ys TE) (hv : VT v cs es)
  (hF : Fr [] w wx (.own w.heap.size 9 1 (.slice A (nn + 1) c) (nn + 1) ((ms.map (fun x => x.1) ++ [s]).map strv) :: .own w.heap.size 76 5 (.slice B (nn + 1) d) (nn + 1) (ys ++ cs) :: .blk go 116 (vlL 6 0 ⟨#[]⟩ (.slice A (nn + 1) c) (.slice B (nn + 1) d)) :: .blk g1 31 doc :: (TE ++ es))) :
  OMid w g1 go b doc (ms ++ [(s, v)]) wx := by
 refine ⟨nn + 1, A, c, B, d, ys ++ cs, TE ++ es, by rw [List.length_append, hnn]; rfl, hb, hc, hd, ?_, ?_⟩
 ·rw [List.map_append]; exact hT.snoc hv
 ·rw [List.map_append]; exact hF
theorem lpermO {α : Type} (z a l n k o g1 : α) (te le : List α) : (z :: a :: l :: n :: k :: o :: g1 :: (te ++ le)).Perm (n :: k :: o :: g1 :: l :: (te ++ (z :: a :: le))) := by
 have e1 : (z :: a :: l :: n :: k :: o :: g1 :: (te ++ le)) = [z, a] ++ (([l] ++ [n, k, o, g1]) ++ (te ++ le)) := rfl
 have e2 : (n :: k :: o :: g1 :: l :: (te ++ (z :: a :: le))) = ([n, k, o, g1] ++ [l]) ++ (te ++ ([z, a] ++ le)) := by simp
 rw [e1, e2]
 refine List.Perm.trans (List.perm_append_comm_assoc _ _ _) ?_
 exact List.Perm.append List.perm_append_comm (List.perm_append_comm_assoc _ _ _)
def PWr (w : World) (r : List UInt8 × Nat) (e : Ending) (w' : World) : Prop :=
 ∃ A n c, e = .returned (.tuple #[.slice A n c, .int .i64 (r.2 : Int)]) ∧ n = r.1.length ∧ n ≤ c ∧ Fr [] w w' [.rd A 1 n (r.1.map bv)]
theorem PWr.nil {X : List Ent} {w w' : World} {f : Nat} (hF : Fr [] w w' X) : PWr w ([], f) (.returned (.tuple #[.slice none 0 0, .int .i64 (f : Int)])) w' :=
 ⟨none, 0, 0, rfl, rfl, Nat.le_refl _, (hF.sub (List.nil_sublist _)).pushNone 1⟩
set_option maxRecDepth 20000 in
set_option maxHeartbeats 25600000 in
theorem pwrite_any (D : MDoc) (cs : List Value) (w : World) (hL : MLibs w.heap.size w) (hDD : RdDoc w D cs) (hwD : dcW D ≤ 1048576) :
  Calls Tryz.prog 28 #[.agg cs.toArray] w (PWr w (mWrite D)) := by
 have hsm := dc_sm hwD
 have hri := box (fun w' (hb : Below w.heap.size w w') => pright_any D cs w' ((hL.on hb).up hb.size) (hDD.on hb) hsm)
 have htok := box (fun hr : mRight D => tell_ok hr hDD.dig hwD)
 obtain ⟨cf, eg, sj, nt, hC0, ⟨Ae, ne, ce, xe, hnce, hne', rfl, hre0, hEd0⟩, hS0, ⟨An, nq, cn, hnn0, hnq', rfl, hrn0⟩, rfl⟩ := hDD
 obtain ⟨hsm1, hsm2, hsC', ⟨hsE0, hsE'⟩, hsS', hsN⟩ := hsm
 have hcl := box hC0.len
 have hsl := box hS0.len
 have hdl := box (docL_len (m := D.media) (t := D.type) (eg := .slice Ae ne ce) (has := D.has) (nt := .slice An nq cn) hC0.len hS0.len)
 have hre := box hre0
 have hcf := box (fun w' (hb : Below w.heap.size w w') => ptold_any D.config cf w' (hC0.on hb) hsC'.2.1)
 have hsu := box (fun w' (hb : Below w.heap.size w w') => ptold_any D.subject sj w' (hS0.on hb) hsS'.2.1)
 obtain ⟨eds, hDe'⟩ : ∃ eds, D.edges = eds := ⟨_, rfl⟩
 rw [hDe'] at hne' hEd0 hsE' hsE0
 have hne6 : ne ≤ 1000000 := by omega
 have hDe := box hDe'
 have hEd := box hEd0
 have hne := box hne'
 have hsE := box hsE'
 have hnq := box hnq'
 have hnqb := box (show nq ≤ 1000000 by rw [hnq']; exact hsN.1)
 have hnr := box hrn0
 obtain ⟨m, hDm'⟩ : ∃ m, D.media = m := ⟨_, rfl⟩
 obtain ⟨ty, hDt'⟩ : ∃ ty, D.type = ty := ⟨_, rfl⟩
 obtain ⟨hs, hDh'⟩ : ∃ hs, D.has = hs := ⟨_, rfl⟩
 rw [hDm', hDt', hDh'] at hri hdl
 rw [hDm', hDt', hDh']
 have hDm := box hDm'
 have hDt := box hDt'
 have hDh := box hDh'
 clear hC0 hS0 hre0 hEd0 hne' hsC' hsS' hsE' hrn0 hnq' hsN hDe' hDm' hDt' hDh' hsm1 hsm2 hsE0 hwD
 have hF0 := Fr.nil w
 by_cases hrt' : mRight D
 rotate_left
 ·rw [decide_eq_false hrt'] at hri
  have hmw : Box (mWrite D = ([], 1)) := box (if_neg hrt')
  clear htok
  replace hrt' := box hrt'
  go_enter Tryz.func28, Tryz.ntmps28
  go_wp2_with (first | ((with_reducible refine lsx (wp_fbox hF0 (cs := (docL m ty cf (.slice Ae ne ce) sj hs (.slice An nq cn))) rfl (by with_unfolding_all rfl) (by with_unfolding_all rfl) ?_)); intro w1 g1 hF1 hz1) | (with_reducible refine lsx (wp_fldA0 hF1 uq31 rfl (by with_unfolding_all exact ⟨_, rfl, rfl⟩) (ds := (docL m ty cf (.slice Ae ne ce) sj hs (.slice An nq cn))) (by rw [hdl.out]; kernel_rfl) (take_all _) ?_)))
  refine (hri.out _ hF1.below).mono ?_
  rintro e w2 ⟨rfl, hb2⟩
  have hF2 := hF1.call hb2
  go_wp2_with fail
  go_ret2
  rw [hmw.out]
  exact PWr.nil hF2
 rw [decide_eq_true hrt'] at hri
 have hok := box (htok.out hrt')
 have hrt := box hrt'
 clear htok hrt'
 go_enter Tryz.func28, Tryz.ntmps28
 go_wp2_with (first | ((with_reducible refine lsx (wp_fbox hF0 (cs := (docL m ty cf (.slice Ae ne ce) sj hs (.slice An nq cn))) rfl (by with_unfolding_all rfl) (by with_unfolding_all rfl) ?_)); intro w1 g1 hF1 hz1) | (with_reducible refine lsx (wp_fldA0 hF1 uq31 rfl (by with_unfolding_all exact ⟨_, rfl, rfl⟩) (ds := (docL m ty cf (.slice Ae ne ce) sj hs (.slice An nq cn))) (by rw [hdl.out]; kernel_rfl) (take_all _) ?_)))
 refine (hri.out _ hF1.below).mono ?_
 rintro e w2 ⟨rfl, hb2⟩
 have hF2 := hF1.call hb2
 clear hF0 hF1 hri
 go_wp2_with (first | (with_reducible refine lsx (wp_fbuild uq76 (z := .agg (List.toArray vl0)) (by kernel_rfl) (pl := vlP) (by kernel_rfl) (cs := (vlL 6 0 ⟨#[]⟩ (.slice none 0 0) (.slice none 0 0))) rfl (vs := [(0, .int .i64 6)]) (by with_unfolding_all rfl) (by with_unfolding_all rfl) ?_)) | (with_reducible refine lsx (wp_fbuild uq116 (z := .agg (List.toArray vl0)) (by kernel_rfl) (pl := objP) (by kernel_rfl) (cs := (vlL 6 0 ⟨#[]⟩ (.slice none 0 0) (.slice none 0 0))) rfl (vs := [(0, .agg (vlL 6 0 ⟨#[]⟩ (.slice none 0 0) (.slice none 0 0)).toArray)]) (by with_unfolding_all rfl) (by with_unfolding_all rfl) ?_)) | ((with_reducible refine lsx (wp_falloc hF2 (cs := vl0) (z := .agg (List.toArray (vl0))) rfl (by kernel_rfl) (by with_unfolding_all rfl) ?_)); intro w3 g3 hF3 hz3) | ((with_reducible refine lsx (wp_fstA0 hF3 (by with_unfolding_all exact ⟨_, _, rfl, rfl, rfl⟩) (by rw [vlL_len]; kernel_rfl) vlL_one vlL_fit vlL_spl ?_)); intro w4 hF4 hz4) | (with_reducible refine lsx (wp_fbuild uq76 (z := .agg (List.toArray vl0)) (by kernel_rfl) (pl := vlP) (by kernel_rfl) (cs := (vlL 3 2 ⟨#[]⟩ (.slice none 0 0) (.slice none 0 0))) rfl (vs := [(0, .int .i64 3), (1, .int .i64 2)]) (by with_unfolding_all rfl) (by with_unfolding_all rfl) ?_)))
 have hG4 := (hF4.none_ w.heap.size 76 5).none_ w.heap.size 9 1
 clear hF2 hF3 hF4
 refine (oput_any (ns := []) kVersion (vlL 3 2 ⟨#[]⟩ (.slice none 0 0) (.slice none 0 0)) hG4 (by omega) (by omega) rfl vlL_one).mono ?_
 rintro e w5 ⟨A5, c5, B5, d5, hc5, hd5, rfl, hF5⟩
 clear hG4
 have hF := hF5.lfE
 have hT : Box (VTL ([(kVersion, jN 2)].map (fun x => x.2)) ([] ++ (vlL 3 2 ⟨#[]⟩ (.slice none 0 0) (.slice none 0 0))) ([] ++ tLf)) := box (VTL.snoc (v := jN 2) VTL.nil VT.leaf)
 clear hF5
 go_upto_region 5 with fail
 (try simp only [zP, zQ, zS, zZ, zN])
 go_cut [] (fun wx => OMid w g1 g3 2 (docL m ty cf (.slice Ae ne ce) sj hs (.slice An nq cn)) [(kVersion, jN 2), (kMedia, jT m)] wx)
 case first =>
  go_wp2_with (first | (with_reducible refine lsx (wp_fld3 hF uq9 rfl (by with_unfolding_all exact ⟨_, rfl, rfl⟩) docL_m0 ?_)))
  refine (otext_any kMedia m hF (by omega) (by omega)).mono ?_
  rintro e w9 ⟨A9, c9, B9, d9, hc9, hd9, rfl, hF9⟩
  go_wp2_with fail
  go_meet
  exact OMid.put (nn := 0 + 1) (ms := [(kVersion, jN 2)]) (s := kMedia) (v := jT m) rfl (by omega) hc9 hd9 hT.out VT.leaf hF9.lfE
 case rest =>
  clear hF hT
  obtain ⟨nn, A, c, B, d, ys, TE, hnn', hnb, hcc, hdd, hT', hF⟩ := hcut
  have hnn := box hnn'
  have hT := box hT'
  clear hnn' hT'
  go_step
  go_step
  (try simp only [zP, zQ, zS, zZ, zN])
  go_cut [] (fun wx => OMid w g1 g3 3 (docL m ty cf (.slice Ae ne ce) sj hs (.slice An nq cn)) ([(kVersion, jN 2), (kMedia, jT m)] ++ tType ty) wx)
  case first =>
   by_cases ht : ty = []
   ·have t1 : (ty == []) = true := by rw [beq_iff_eq]; exact ht
    have t2 : (ty != []) = false := by rw [bne, t1]; rfl
    have hty : Box (tType ty = []) := box (if_pos ht)
    replace ht := box ht
    go_wp2_with (first | (with_reducible refine lsx (wp_fld3 hF uq9 rfl (by with_unfolding_all exact ⟨_, rfl, rfl⟩) docL_t0 ?_)))
    go_meet
    rw [hty.out, List.append_nil]
    exact ⟨nn, A, c, B, d, ys, TE, hnn.out, by omega, hcc, hdd, hT.out, hF⟩
   ·have t1 : (ty == []) = false := by rw [beq_eq_false_iff_ne]; exact ht
    have t2 : (ty != []) = true := by rw [bne, t1]; rfl
    have hty : Box (tType ty = [(kType, jT ty)]) := box (if_neg ht)
    replace ht := box ht
    go_wp2_with (first | (with_reducible refine lsx (wp_fld3 hF uq9 rfl (by with_unfolding_all exact ⟨_, rfl, rfl⟩) docL_t0 ?_)))
    refine (otext_any kType ty hF (by omega) (by omega)).mono ?_
    rintro e w9 ⟨A9, c9, B9, d9, hc9, hd9, rfl, hF9⟩
    go_wp2_with fail
    go_meet
    rw [hty.out]
    exact OMid.put hnn.out (by omega) hc9 hd9 hT.out VT.leaf hF9.lfE
  case rest =>
   clear hF hT hnn
   obtain ⟨nn, A, c, B, d, ys, TE, hnn', hnb, hcc, hdd, hT', hF⟩ := hcut
   have hnn := box hnn'
   have hT := box hT'
   clear hnn' hT'
   go_step
   go_step
   (try simp only [zP, zQ, zS, zZ, zN])
   go_cut [5] (fun u5 wx => ∃ g8, u5 = .pointer (some ⟨g8, 0, none⟩) ∧ Fr [] w wx (.own w.heap.size 76 5 (.slice none 0 0) 0 [] :: .blk g8 76 (vlL 5 0 ⟨#[]⟩ (.slice none 0 0) (.slice none 0 0)) :: .own w.heap.size 9 1 (.slice A nn c) nn ((([(kVersion, jN 2), (kMedia, jT m)] ++ tType ty).map (fun x => x.1)).map strv) :: .own w.heap.size 76 5 (.slice B nn d) nn ys :: .blk g3 116 (vlL 6 0 ⟨#[]⟩ (.slice A nn c) (.slice B nn d)) :: .blk g1 31 (docL m ty cf (.slice Ae ne ce) sj hs (.slice An nq cn)) :: TE))
   case first =>
    go_wp2_with (first | (with_reducible refine lsx (wp_fbuild uq76 (z := .agg (List.toArray vl0)) (by kernel_rfl) (pl := vlP) (by kernel_rfl) (cs := (vlL 5 0 ⟨#[]⟩ (.slice none 0 0) (.slice none 0 0))) rfl (vs := [(0, .int .i64 5)]) (by with_unfolding_all rfl) (by with_unfolding_all rfl) ?_)) | ((with_reducible refine lsx (wp_falloc hF (cs := vl0) (z := .agg (List.toArray (vl0))) rfl (by kernel_rfl) (by with_unfolding_all rfl) ?_)); intro w8 g8 hF8 hz8) | ((with_reducible refine lsx (wp_fstA0 hF8 (by with_unfolding_all exact ⟨_, _, rfl, rfl, rfl⟩) (by rw [vlL_len]; kernel_rfl) vlL_one vlL_fit vlL_spl ?_)); intro w9 hF9 hz9))
    go_meet
    exact ⟨g8, rfl, hF9.none_ w.heap.size 76 5⟩
   case rest =>
    obtain ⟨g8, rfl, hF10⟩ := hcut
    clear hF
    go_step
    go_step
    (try simp only [zP, zQ, zS, zZ, zN])
    go_cut [] (fun wx => ∃ (AL : Option Addr) (cL : Nat) (zs : List Value) (LE : List Ent), ne ≤ cL ∧ VTL (eds.map tDesc) zs LE ∧ Fr [] w wx (.own w.heap.size 76 5 (.slice AL ne cL) ne zs :: .blk g8 76 (vlL 5 0 ⟨#[]⟩ (.slice none 0 0) (.slice AL ne cL)) :: .own w.heap.size 9 1 (.slice A nn c) nn ((([(kVersion, jN 2), (kMedia, jT m)] ++ tType ty).map (fun x => x.1)).map strv) :: .own w.heap.size 76 5 (.slice B nn d) nn ys :: .blk g3 116 (vlL 6 0 ⟨#[]⟩ (.slice A nn c) (.slice B nn d)) :: .blk g1 31 (docL m ty cf (.slice Ae ne ce) sj hs (.slice An nq cn)) :: (TE ++ LE)))
    case first =>
     go_wp2_with (first | (with_reducible refine lsx (wp_fld5 hF10 uq29 rfl (by with_unfolding_all exact ⟨_, rfl, rfl⟩) (docL_eg hcl.out) ?_)))
     go_loopg [30] ne (fun g iv wr => ∃ (i : Nat) (AL : Option Addr) (cL : Nat) (zs : List Value) (LE : List Ent), i ≤ ne ∧ Box (g = ne - i) ∧ iv = .int .i64 (i : Int) ∧ i ≤ cL ∧ Box (VTL ((eds.take i).map tDesc) zs LE) ∧ Fr [] w wr (.own w.heap.size 76 5 (.slice AL i cL) i zs :: .blk g8 76 (vlL 5 0 ⟨#[]⟩ (.slice none 0 0) (.slice AL i cL)) :: .own w.heap.size 9 1 (.slice A nn c) nn ((([(kVersion, jN 2), (kMedia, jT m)] ++ tType ty).map (fun x => x.1)).map strv) :: .own w.heap.size 76 5 (.slice B nn d) nn ys :: .blk g3 116 (vlL 6 0 ⟨#[]⟩ (.slice A nn c) (.slice B nn d)) :: .blk g1 31 (docL m ty cf (.slice Ae ne ce) sj hs (.slice An nq cn)) :: (TE ++ LE)))
     case atStart => exact ⟨0, none, 0, [], [], by omega, box rfl, rfl, Nat.le_refl _, box VTL.nil, by simpa using hF10⟩
     case round =>
      clear hF10
      obtain ⟨i, AL, cL, zs, LE, hi, hgi, rfl, hic, hTL, hF⟩ := hrel
      have hkk : Box (_ = ne - i) := hgi
      clear hgi
      have hre' := hre.out.below hF.below
      by_cases hlt : i < ne
      ·obtain ⟨x, hx'⟩ : ∃ x, eds[i]? = some x := ⟨eds[i]'(by rw [← hne.out]; exact hlt), by simp⟩
       have hxm := List.mem_of_getElem? hx'
       have hto := box (fun w' (hb : Below w.heap.size w w') => ptold_any x _ w' ((hEd.out i x hx').on hb) (hsE.out x hxm).2.1)
       have hx := box hx'
       have hxl := box (hEd.out i x hx').len
       have hxo := box (hEd.out i x hx').ones
       obtain ⟨ci, hce⟩ : ∃ ci, ci = (xe.drop (i * 35)).take 35 := ⟨_, rfl⟩
       rw [← hce] at hxl hto hxo
       replace hce := box hce.symm
       clear hx' hxm
       go_upto_region 12 with (first | (with_reducible refine lsx (wp_indexAddr T_descs hre' (by with_unfolding_all exact ⟨_, _, _, _, rfl, rfl, rfl⟩) (by omega) (by omega) ?_)) | (with_reducible refine lsx (wp_loadA hre' uq28 rfl (by with_unfolding_all exact ⟨_, rfl, rfl⟩) (ds := ci) (by rw [hxl.out]; kernel_rfl) (by rw [hxl.out]; with_unfolding_all exact hce.out) ?_)) | ((with_reducible refine lsx (wp_falloc hF (cs := ds0) (z := .agg (List.toArray (ds0))) rfl (by kernel_rfl) (by with_unfolding_all rfl) ?_)); intro w11 g11 hF11 hz11) | ((with_reducible refine lsx (wp_fstA0 hF11 (by with_unfolding_all exact ⟨_, _, rfl, rfl, rfl⟩) (by rw [hxl.out]; kernel_rfl) hxo.out (by rw [hxl.out, ds0_len]; decide) (spl_all (by rw [hxl.out, ds0_len])) ?_)); intro w12 hF12 hz12))
       have hFd := hF12.drew
       clear hF hF11 hF12
       refine wp_region_held (S := fun w' => w'.heap[g11]? = some (.cells (List.toArray ci) 28 (0, 0))) (by kernel_rfl) ?_
       change wpAnyH _ _ _ _ _ _ _ _ (World.drew _)
       refine tkp 0 (hFd.blk (i := 0) rfl) ?_
       (try simp only [zP, zQ, zS, zZ, zN])
       refine tky 2 (y := yi_fldA (by with_unfolding_all rfl) (fun _ h => h) uq28 rfl (by with_unfolding_all exact ⟨_, rfl, rfl⟩) (ds := ci) (by rw [hxl.out]; kernel_rfl) (take_all _)) (s := (hFd.blk (i := 0) rfl)) (h := ?_)
       (try simp only [zP, zQ, zS, zZ, zN])
       refine wpAnyH_ready (rs := [1, 3]) (by kernel_rfl) (by simp) ?_
       refine AllReadyH.cons (by simp only [List.getElem?_toArray, List.getElem?_cons_zero, List.getElem?_cons_succ]; rfl) (fun K hK => ?_) ?_
       ·refine stp (by with_unfolding_all rfl) (wp_fld hFd (i := 2) rfl uq74 rfl (by with_unfolding_all exact ⟨_, rfl, rfl⟩) rfl ?_)
        refine hK.out _ _ ((hFd.blk (i := 0) rfl)) (fun _ => ?_)
        clear hK K
        (try simp only [zP, zQ, zS, zZ, zN])
        refine rdy1 3 (fun K hK => ?_)
        refine stp (by with_unfolding_all rfl) (wp_call Tryz.func59 rfl (by with_unfolding_all rfl) (by with_unfolding_all rfl) (by with_unfolding_all rfl) (hto.out _ hFd.below) ?_)
        rintro e w31 ⟨cs31, es31, rfl, hvt31, hv31⟩
        refine ⟨_, rfl, ?_⟩
        have hF31 := hFd.joinR hv31
        simp only [List.cons_append] at hF31
        refine hK.out _ _ ((hF31.blk (i := 0) rfl)) (fun _ => ?_)
        clear hK K
        (try simp only [zP, zQ, zS, zZ, zN])
        refine rdy1 4 (fun K hK => ?_)
        refine stp (by with_unfolding_all rfl) (wp_fbs1 T_vals hF31 (by with_unfolding_all rfl) (ds := cs31) (by with_unfolding_all rfl) hvt31.len (by decide) ?_)
        intro w32 g32 hF32 hz32
        refine hK.out _ _ ((hF32.blk (i := 1) rfl)) (fun _ => ?_)
        clear hK K
        (try simp only [zP, zQ, zS, zZ, zN])
        refine rdy1 5 (fun K hK => ?_)
        refine stp (by with_unfolding_all rfl) (wp_fappG T_vals hF32 (i := 2) rfl (Nat.le_refl _) (hF32.rdOwn (i := 0) rfl) hvt31.one (by with_unfolding_all exact ⟨_, _, rfl, rfl, rfl⟩) (by unfold maxLen; omega) (by omega) ?_)
        intro v33 w33 hF33 hz33
        (try simp only [zZ, zN] at hF33)
        obtain ⟨A33, c33, rfl, hc33⟩ := hF33.ownParts (i := 2) rfl
        refine hK.out _ _ ((hF33.blk (i := 1) rfl)) (fun _ => ?_)
        clear hK K
        (try simp only [zP, zQ, zS, zZ, zN])
        refine tkp 6 (hF33.blk (i := 1) rfl) ?_
        (try simp only [zP, zQ, zS, zZ, zN])
        refine rdy1 7 (fun K hK => ?_)
        refine stp (by with_unfolding_all rfl) (wp_fst hF33 (i := 3) rfl (v := .slice A33 (i + 1) c33) (by with_unfolding_all exact ⟨_, _, rfl, rfl, rfl⟩) (by kernel_rfl) rfl rfl (by rw [vlL_len]; decide) ?_)
        intro w34 hF34 hz34
        (try simp only [zZ, zN] at hF34)
        rw [(vlL_4 (k := 5) (n := 0) (t := ⟨#[]⟩) (a := (.slice none 0 0)) (b := .slice AL i cL))] at hF34
        refine hK.out _ _ ((hF34.blk (i := 1) rfl)) (fun _ => ?_)
        clear hK K
        (try simp only [zP, zQ, zS, zZ, zN])
        refine wpAnyH_done (by kernel_rfl) ?_ _
        go_wp2_with fail
        go_roundg (ne - (i + 1))
        case rel => exact ⟨i + 1, A33, c33, zs ++ cs31, LE ++ es31, by omega, box rfl, by go_num, hc33, box (by rw [take_snoc1 hx.out, List.map_append]; exact hTL.out.snoc hvt31), by have h := hF34.tail.tail; simpa using h⟩
        case measure => have := hkk.out; omega
       refine AllReadyH.cons (by simp only [List.getElem?_toArray, List.getElem?_cons_zero, List.getElem?_cons_succ]; rfl) (fun K hK => ?_) ?_
       ·refine stp (by with_unfolding_all rfl) (wp_call Tryz.func59 rfl (by with_unfolding_all rfl) (by with_unfolding_all rfl) (by with_unfolding_all rfl) (hto.out _ hFd.below) ?_)
        rintro e w31 ⟨cs31, es31, rfl, hvt31, hv31⟩
        refine ⟨_, rfl, ?_⟩
        have hF31 := hFd.joinR hv31
        simp only [List.cons_append] at hF31
        refine hK.out _ _ ((hF31.blk (i := 0) rfl)) (fun _ => ?_)
        clear hK K
        (try simp only [zP, zQ, zS, zZ, zN])
        refine wpAnyH_ready (rs := [1, 4]) (by kernel_rfl) (by simp) ?_
        refine AllReadyH.cons (by simp only [List.getElem?_toArray, List.getElem?_cons_zero, List.getElem?_cons_succ]; rfl) (fun K hK => ?_) ?_
        ·refine stp (by with_unfolding_all rfl) (wp_fld hF31 (i := 2) rfl uq74 rfl (by with_unfolding_all exact ⟨_, rfl, rfl⟩) rfl ?_)
         refine hK.out _ _ ((hF31.blk (i := 0) rfl)) (fun _ => ?_)
         clear hK K
         (try simp only [zP, zQ, zS, zZ, zN])
         refine rdy1 4 (fun K hK => ?_)
         refine stp (by with_unfolding_all rfl) (wp_fbs1 T_vals hF31 (by with_unfolding_all rfl) (ds := cs31) (by with_unfolding_all rfl) hvt31.len (by decide) ?_)
         intro w32 g32 hF32 hz32
         refine hK.out _ _ ((hF32.blk (i := 1) rfl)) (fun _ => ?_)
         clear hK K
         (try simp only [zP, zQ, zS, zZ, zN])
         refine rdy1 5 (fun K hK => ?_)
         refine stp (by with_unfolding_all rfl) (wp_fappG T_vals hF32 (i := 2) rfl (Nat.le_refl _) (hF32.rdOwn (i := 0) rfl) hvt31.one (by with_unfolding_all exact ⟨_, _, rfl, rfl, rfl⟩) (by unfold maxLen; omega) (by omega) ?_)
         intro v33 w33 hF33 hz33
         (try simp only [zZ, zN] at hF33)
         obtain ⟨A33, c33, rfl, hc33⟩ := hF33.ownParts (i := 2) rfl
         refine hK.out _ _ ((hF33.blk (i := 1) rfl)) (fun _ => ?_)
         clear hK K
         (try simp only [zP, zQ, zS, zZ, zN])
         refine tkp 6 (hF33.blk (i := 1) rfl) ?_
         (try simp only [zP, zQ, zS, zZ, zN])
         refine rdy1 7 (fun K hK => ?_)
         refine stp (by with_unfolding_all rfl) (wp_fst hF33 (i := 3) rfl (v := .slice A33 (i + 1) c33) (by with_unfolding_all exact ⟨_, _, rfl, rfl, rfl⟩) (by kernel_rfl) rfl rfl (by rw [vlL_len]; decide) ?_)
         intro w34 hF34 hz34
         (try simp only [zZ, zN] at hF34)
         rw [(vlL_4 (k := 5) (n := 0) (t := ⟨#[]⟩) (a := (.slice none 0 0)) (b := .slice AL i cL))] at hF34
         refine hK.out _ _ ((hF34.blk (i := 1) rfl)) (fun _ => ?_)
         clear hK K
         (try simp only [zP, zQ, zS, zZ, zN])
         refine wpAnyH_done (by kernel_rfl) ?_ _
         go_wp2_with fail
         go_roundg (ne - (i + 1))
         case rel => exact ⟨i + 1, A33, c33, zs ++ cs31, LE ++ es31, by omega, box rfl, by go_num, hc33, box (by rw [take_snoc1 hx.out, List.map_append]; exact hTL.out.snoc hvt31), by have h := hF34.tail.tail; simpa using h⟩
         case measure => have := hkk.out; omega
        refine AllReadyH.cons (by simp only [List.getElem?_toArray, List.getElem?_cons_zero, List.getElem?_cons_succ]; rfl) (fun K hK => ?_) ?_
        ·refine stp (by with_unfolding_all rfl) (wp_fbs1 T_vals hF31 (by with_unfolding_all rfl) (ds := cs31) (by with_unfolding_all rfl) hvt31.len (by decide) ?_)
         intro w32 g32 hF32 hz32
         refine hK.out _ _ ((hF32.blk (i := 1) rfl)) (fun _ => ?_)
         clear hK K
         (try simp only [zP, zQ, zS, zZ, zN])
         refine rdy1 1 (fun K hK => ?_)
         refine stp (by with_unfolding_all rfl) (wp_fld hF32 (i := 3) rfl uq74 rfl (by with_unfolding_all exact ⟨_, rfl, rfl⟩) rfl ?_)
         refine hK.out _ _ ((hF32.blk (i := 1) rfl)) (fun _ => ?_)
         clear hK K
         (try simp only [zP, zQ, zS, zZ, zN])
         refine rdy1 5 (fun K hK => ?_)
         refine stp (by with_unfolding_all rfl) (wp_fappG T_vals hF32 (i := 2) rfl (Nat.le_refl _) (hF32.rdOwn (i := 0) rfl) hvt31.one (by with_unfolding_all exact ⟨_, _, rfl, rfl, rfl⟩) (by unfold maxLen; omega) (by omega) ?_)
         intro v33 w33 hF33 hz33
         (try simp only [zZ, zN] at hF33)
         obtain ⟨A33, c33, rfl, hc33⟩ := hF33.ownParts (i := 2) rfl
         refine hK.out _ _ ((hF33.blk (i := 1) rfl)) (fun _ => ?_)
         clear hK K
         (try simp only [zP, zQ, zS, zZ, zN])
         refine tkp 6 (hF33.blk (i := 1) rfl) ?_
         (try simp only [zP, zQ, zS, zZ, zN])
         refine rdy1 7 (fun K hK => ?_)
         refine stp (by with_unfolding_all rfl) (wp_fst hF33 (i := 3) rfl (v := .slice A33 (i + 1) c33) (by with_unfolding_all exact ⟨_, _, rfl, rfl, rfl⟩) (by kernel_rfl) rfl rfl (by rw [vlL_len]; decide) ?_)
         intro w34 hF34 hz34
         (try simp only [zZ, zN] at hF34)
         rw [(vlL_4 (k := 5) (n := 0) (t := ⟨#[]⟩) (a := (.slice none 0 0)) (b := .slice AL i cL))] at hF34
         refine hK.out _ _ ((hF34.blk (i := 1) rfl)) (fun _ => ?_)
         clear hK K
         (try simp only [zP, zQ, zS, zZ, zN])
         refine wpAnyH_done (by kernel_rfl) ?_ _
         go_wp2_with fail
         go_roundg (ne - (i + 1))
         case rel => exact ⟨i + 1, A33, c33, zs ++ cs31, LE ++ es31, by omega, box rfl, by go_num, hc33, box (by rw [take_snoc1 hx.out, List.map_append]; exact hTL.out.snoc hvt31), by have h := hF34.tail.tail; simpa using h⟩
         case measure => have := hkk.out; omega
        exact AllReadyH.nil
       exact AllReadyH.nil
      ·obtain rfl : ne = i := by omega
       have htk : eds.take ne = eds := by rw [hne.out]; exact List.take_length
       rw [htk] at hTL
       clear htk
       go_wp2_with fail
       go_meet
       exact ⟨AL, cL, zs, LE, hic, hTL.out, hF⟩
    case rest =>
     obtain ⟨AL, cL, zs, LE, hic, hTL', hF⟩ := hcut
     have hTL := box hTL'
     clear hTL' hF10
     go_step
     go_step
     (try simp only [zP, zQ, zS, zZ, zN])
     go_cut [] (fun wx => OMid w g1 g3 5 (docL m ty cf (.slice Ae ne ce) sj hs (.slice An nq cn)) (([(kVersion, jN 2), (kMedia, jT m)] ++ tType ty) ++ tMain D) wx)
     case first =>
      have hG := ((hF.toRd (i := 0) rfl).pushNone 1).perm (es' := .own w.heap.size 9 1 (.slice A nn c) nn ((([(kVersion, jN 2), (kMedia, jT m)] ++ tType ty).map (fun x => x.1)).map strv) :: .own w.heap.size 76 5 (.slice B nn d) nn ys :: .blk g3 116 (vlL 6 0 ⟨#[]⟩ (.slice A nn c) (.slice B nn d)) :: .blk g1 31 (docL m ty cf (.slice Ae ne ce) sj hs (.slice An nq cn)) :: .blk g8 76 (vlL 5 0 ⟨#[]⟩ (.slice none 0 0) (.slice AL ne cL)) :: (TE ++ (.rd none 1 0 [] :: .rd AL 5 ne zs :: LE))) (by
       simp only [List.set_cons_zero]
       exact lpermO _ _ _ _ _ _ _ _ _)
      have hVL : VT (jL (eds.map tDesc)) (vlL 5 0 ⟨#[]⟩ (.slice none 0 0) (.slice AL ne cL)) (.rd none 1 0 [] :: .rd AL 5 ne zs :: LE) := VT.mk_ (ns := []) (t := []) (Nat.le_refl _) hic hTL.out
      clear hF
      by_cases hi : m = sImage
      ·skip
       have e1 : (m == [97, 112, 112, 108, 105, 99, 97, 116, 105, 111, 110, 47, 118, 110, 100, 46, 111, 99, 105, 46, 105, 109, 97, 103, 101, 46, 109, 97, 110, 105, 102, 101, 115, 116, 46, 118, 49, 43, 106, 115, 111, 110]) = true := by rw [beq_iff_eq]; exact hi
       have hmn : Box (tMain D = [(kConfig, tDesc D.config), (kLayers, jL (eds.map tDesc))]) := box (by unfold tMain; rw [hDm.out, if_pos hi, hDe.out])
       replace hi := box hi
       go_wp2_with (first | (with_reducible refine lsx (wp_fld3 hG uq9 rfl (by with_unfolding_all exact ⟨_, rfl, rfl⟩) docL_m0 ?_)) | (with_reducible refine lsx (wp_fldA3 hG uq28 rfl (by with_unfolding_all exact ⟨_, rfl, rfl⟩) (ds := cf) (by rw [hcl.out]; kernel_rfl) (by rw [hcl.out]; exact docL_cf hcl.out) ?_)))
       refine (hcf.out _ hG.below).mono ?_
       rintro e w50 ⟨cs50, es50, rfl, hvt50, h50⟩
       have hF50 := hG.joinR h50
       simp only [List.cons_append] at hF50
       have hVT50 := box hvt50
       have hl50 := hvt50.len
       have ho50 := box hvt50.one
       clear hvt50 h50 hG
       go_wp2_with fail
       refine (oput_any kConfig cs50 hF50 (by omega) (by omega) hl50 ho50.out).mono ?_
       rintro e w51 ⟨A51, c51, B51, d51, hc51, hd51, rfl, hF51⟩
       clear hF50
       go_wp2_with (first | (with_reducible refine lsx (wp_fldA4 hF51 uq76 rfl (by with_unfolding_all exact ⟨_, rfl, rfl⟩) (ds := (vlL 5 0 ⟨#[]⟩ (.slice none 0 0) (.slice AL ne cL))) (by rw [vlL_len]; kernel_rfl) (take_all _) ?_)))
       refine (oput_any kLayers (vlL 5 0 ⟨#[]⟩ (.slice none 0 0) (.slice AL ne cL)) hF51 (by omega) (by omega) rfl vlL_one).mono ?_
       rintro e w60 ⟨A60, c60, B60, d60, hc60, hd60, rfl, hF60⟩
       clear hF51
       go_wp2_with fail
       go_meet
       rw [hmn.out]
       have hH := (hF60.sub (List.Sublist.cons_cons _ (List.Sublist.cons_cons _ (List.Sublist.cons_cons _ (List.Sublist.cons_cons _ (List.Sublist.cons _ (List.Sublist.refl _))))))).perm (List.Perm.cons _ (List.Perm.cons _ (List.Perm.cons _ (List.Perm.cons _ (permTail TE (.rd none 1 0 [] :: .rd AL 5 ne zs :: LE) es50)))))
       have em : (([(kVersion, jN 2), (kMedia, jT m)] ++ tType ty) ++ [(kConfig, tDesc D.config)]).map (fun x : List UInt8 × JV => x.1) = ([(kVersion, jN 2), (kMedia, jT m)] ++ tType ty).map (fun x => x.1) ++ [kConfig] := by rw [List.map_append]; rfl
       have hM := OMid.put (b := 5) (ms := ([(kVersion, jN 2), (kMedia, jT m)] ++ tType ty) ++ [(kConfig, tDesc D.config)]) (s := kLayers) (v := jL (eds.map tDesc)) (nn := nn + 1) (by rw [List.length_append, hnn.out]; rfl) (by omega) hc60 hd60 (by rw [List.map_append]; exact hT.out.snoc hVT50.out) hVL (by rw [em]; exact hH)
       rw [List.append_assoc] at hM
       exact hM
      ·skip
       have e1 : (m == [97, 112, 112, 108, 105, 99, 97, 116, 105, 111, 110, 47, 118, 110, 100, 46, 111, 99, 105, 46, 105, 109, 97, 103, 101, 46, 109, 97, 110, 105, 102, 101, 115, 116, 46, 118, 49, 43, 106, 115, 111, 110]) = false := by rw [beq_eq_false_iff_ne]; exact hi
       have hmn : Box (tMain D = [(kManifests, jL (eds.map tDesc))]) := box (by unfold tMain; rw [hDm.out, if_neg hi, hDe.out])
       replace hi := box hi
       go_wp2_with (first | (with_reducible refine lsx (wp_fld3 hG uq9 rfl (by with_unfolding_all exact ⟨_, rfl, rfl⟩) docL_m0 ?_)) | (with_reducible refine lsx (wp_fldA4 hG uq76 rfl (by with_unfolding_all exact ⟨_, rfl, rfl⟩) (ds := (vlL 5 0 ⟨#[]⟩ (.slice none 0 0) (.slice AL ne cL))) (by rw [vlL_len]; kernel_rfl) (take_all _) ?_)))
       refine (oput_any kManifests (vlL 5 0 ⟨#[]⟩ (.slice none 0 0) (.slice AL ne cL)) hG (by omega) (by omega) rfl vlL_one).mono ?_
       rintro e w60 ⟨A60, c60, B60, d60, hc60, hd60, rfl, hF60⟩
       go_wp2_with fail
       go_meet
       rw [hmn.out]
       exact OMid.put hnn.out (by omega) hc60 hd60 hT.out hVL (hF60.sub (List.Sublist.cons_cons _ (List.Sublist.cons_cons _ (List.Sublist.cons_cons _ (List.Sublist.cons_cons _ (List.Sublist.cons _ (List.Sublist.refl _)))))))
     case rest =>
      clear hF hT hnn hTL
      obtain ⟨nn, A, c, B, d, ys, TE, hnn', hnb, hcc, hdd, hT', hF⟩ := hcut
      have hnn := box hnn'
      have hT := box hT'
      clear hnn' hT'
      go_step
      go_step
      (try simp only [zP, zQ, zS, zZ, zN])
      go_cut [] (fun wx => OMid w g1 g3 6 (docL m ty cf (.slice Ae ne ce) sj hs (.slice An nq cn)) ((([(kVersion, jN 2), (kMedia, jT m)] ++ tType ty) ++ tMain D) ++ tSubj D) wx)
      case first =>
       cases hs with
       | false =>
        have hsb : Box (tSubj D = []) := box (if_neg (by rw [hDh.out]; decide))
        go_wp2_with (first | (with_reducible refine lsx (wp_fld3 hF uq4 rfl (by with_unfolding_all exact ⟨_, rfl, rfl⟩) (docL_has hcl.out hsl.out) ?_)))
        go_meet
        rw [hsb.out, List.append_nil]
        exact ⟨nn, A, c, B, d, ys, TE, hnn.out, by omega, hcc, hdd, hT.out, hF⟩
       | true =>
        have hsb : Box (tSubj D = [(kSubject, tDesc D.subject)]) := box (if_pos hDh.out)
        go_wp2_with (first | (with_reducible refine lsx (wp_fld3 hF uq4 rfl (by with_unfolding_all exact ⟨_, rfl, rfl⟩) (docL_has hcl.out hsl.out) ?_)) | (with_reducible refine lsx (wp_fldA3 hF uq28 rfl (by with_unfolding_all exact ⟨_, rfl, rfl⟩) (ds := sj) (by rw [hsl.out]; kernel_rfl) (by rw [hsl.out]; exact docL_sj hcl.out hsl.out) ?_)))
        refine (hsu.out _ hF.below).mono ?_
        rintro e w50 ⟨cs50, es50, rfl, hvt50, h50⟩
        have hF50 := hF.joinR h50
        simp only [List.cons_append] at hF50
        have hVT50 := box hvt50
        have hl50 := hvt50.len
        have ho50 := box hvt50.one
        clear hvt50 h50 hF
        go_wp2_with fail
        refine (oput_any kSubject cs50 hF50 (by omega) (by omega) hl50 ho50.out).mono ?_
        rintro e w51 ⟨A51, c51, B51, d51, hc51, hd51, rfl, hF51⟩
        clear hF50
        go_wp2_with fail
        go_meet
        rw [hsb.out]
        exact OMid.put hnn.out (by omega) hc51 hd51 hT.out hVT50.out hF51
      case rest =>
       clear hF hT hnn
       obtain ⟨nn, A, c, B, d, ys, TE, hnn', hnb, hcc, hdd, hT', hF⟩ := hcut
       have hnn := box hnn'
       have hT := box hT'
       clear hnn' hT'
       go_wp2_with (first | (with_reducible refine lsx (wp_fld3 hF uq26 rfl (by with_unfolding_all exact ⟨_, rfl, rfl⟩) (docL_nt hcl.out hsl.out) ?_)))
       refine (onotes_any D.notes An nq cn hF (by omega) (by omega) hcc hdd hnq.out hnqb.out hnr.out).mono ?_
       rintro e w70 ⟨A70, c70, B70, d70, zs2, E2, hc70, hd70, rfl, hz, hF70⟩
       clear hF
       have hG := ((hF70.toRd (i := 0) rfl).toRd (i := 1) rfl)
       simp only [zZ, zN] at hG
       have hG2 := hG.sub (List.Sublist.cons_cons _ (List.Sublist.cons_cons _ (List.Sublist.cons _ (List.Sublist.cons _ (List.Sublist.refl (TE ++ E2))))))
       have e1 : mTell D = .mk 6 0 [] ((((([(kVersion, jN 2), (kMedia, jT m)] ++ tType ty) ++ tMain D) ++ tSubj D) ++ tWith D.notes).map (fun x => x.1)) ((((([(kVersion, jN 2), (kMedia, jT m)] ++ tType ty) ++ tMain D) ++ tSubj D) ++ tWith D.notes).map (fun x => x.2)) := by
        unfold mTell tMems
        rw [hDm.out, hDt.out]
        simp only [List.append_assoc]
        rfl
       have e2 : (((([(kVersion, jN 2), (kMedia, jT m)] ++ tType ty) ++ tMain D) ++ tSubj D) ++ tWith D.notes).map (fun x => x.1) = ((([(kVersion, jN 2), (kMedia, jT m)] ++ tType ty) ++ tMain D) ++ tSubj D).map (fun x => x.1) ++ (tWith D.notes).map (fun x => x.1) := List.map_append
       have e3 : (((([(kVersion, jN 2), (kMedia, jT m)] ++ tType ty) ++ tMain D) ++ tSubj D) ++ tWith D.notes).map (fun x => x.2) = ((([(kVersion, jN 2), (kMedia, jT m)] ++ tType ty) ++ tMain D) ++ tSubj D).map (fun x => x.2) ++ (tWith D.notes).map (fun x => x.2) := List.map_append
       rw [e2, e3] at e1
       have hvt := VT.mk_ (k := 6) (n := 0) (t := []) (An := A70) (Ak := B70) (ns := ((([(kVersion, jN 2), (kMedia, jT m)] ++ tType ty) ++ tMain D) ++ tSubj D).map (fun x => x.1) ++ (tWith D.notes).map (fun x => x.1)) hc70 hd70 (VTL.app hT.out hz)
       rw [← e1] at hvt
       have hvr := hvt.rdF hG2 (fun e he => he)
       clear hG hvt e1 e2 e3 hz
       have hwr := box (write_F hG2 ((hL.on hG2.below).up hG2.below.size).j (Nat.le_refl _) hvr hok.out.sm hok.out.tx hok.out.fl)
       clear hvr
       go_wp2_with (first | (with_reducible refine lsx (wp_fldA2 hF70 uq76 rfl (by with_unfolding_all exact ⟨_, rfl, rfl⟩) (ds := (vlL 6 0 ⟨#[]⟩ (.slice A70 (nn + (tWith D.notes).length) c70) (.slice B70 (nn + (tWith D.notes).length) d70))) (by rw [vlL_len]; kernel_rfl) (take_all _) ?_)))
       refine hwr.out.mono ?_
       rintro e w80 ⟨A80, n80, c80, rfl, hn80, hc80, hF80⟩
       clear hwr hF70 hG2
       obtain ⟨⟨l, f⟩, hR⟩ : ∃ R, R = jWrite (mTell D) := ⟨_, rfl⟩
       rw [← hR] at hn80 hF80 ⊢
       simp only [] at hn80 hF80
       replace hn80 := box hn80
       by_cases hf : f = 0
       ·subst hf
        have hmw : Box (mWrite D = (l, 0)) := box (by unfold mWrite; rw [if_pos hrt.out, ← hR]; rfl)
        replace hR := box hR
        go_wp2_with fail
        go_ret2
        rw [hmw.out]
        exact ⟨A80, n80, c80, rfl, hn80.out, hc80, hF80.sub (List.Sublist.cons_cons _ (List.nil_sublist _))⟩
       ·have hne : ((f : Int) != 0) = true := by rw [bne_iff_ne]; omega
        have hmw : Box (mWrite D = ([], 8)) := box (by unfold mWrite; rw [if_pos hrt.out, ← hR]; exact if_neg hf)
        replace hR := box hR
        replace hf := box hf
        go_wp2_with fail
        go_ret2
        rw [hmw.out]
        exact PWr.nil hF80
end Go.Proofs.YtlhicfpmlncomaaGreatDoor

namespace Go.Proofs.YtlhicfpmlncomaaGreatDoor
open Go.RowKit
theorem wp_fb1 {P : Program} {o : Oper} {a : Act} {K : Act → World → Prop} {Q : Exit → Act → World → Prop} {X : List Nat} {w0 w : World} {es : List Ent} {sl e : TypeId} (T : SlT P sl e 1 1 (.int .u8 0)) (hF : Fr X w0 w es) {p : Operand} (ho : o.op = .buildSlice sl 1 #[(0, p)]) {z : Int} {c : UInt8} (hz : z = (c.toNat : Int)) (hv : a.eval p = .int .u8 z)
  (k : ∀ w' g, Fr X w0 w' (Ent.bytes w0.heap.size e (.slice (some ⟨g, 0, none⟩) 1 1) [c] :: es) → w'.heap.size = w.heap.size + 1 → K (a.put o.dst (.slice (some ⟨g, 0, none⟩) 1 1)) w') : o.wp P a w K Q := by
 subst hz
 exact wp_fbsl T hF ho (vs := [bv c]) (by simp [hv, parts, bv]) rfl (by decide) (by simp [bv, Value.cells]) k
end Go.Proofs.YtlhicfpmlncomaaGreatDoor

namespace Go.Proofs.YtlhicfpmlncomaaGreatDoor
open Go.RowKit
theorem str_appj (a b : List UInt8) : (⟨a.toArray⟩ : ByteArray) ++ (⟨b.toArray⟩ : ByteArray) = ⟨(a ++ b).toArray⟩ := by
 apply ByteArray.ext
 simp
theorem str_cons (c : UInt8) (b : List UInt8) : ({ data := #[c] } : ByteArray) ++ (⟨b.toArray⟩ : ByteArray) = ⟨(c :: b).toArray⟩ := str_appj [c] b
theorem dig_byte (m : Nat) : 48 + (m : Int) % 10 = ((UInt8.ofNat (48 + m % 10)).toNat : Int) := by
 rw [UInt8.toNat_ofNat']
 omega
set_option maxRecDepth 20000 in
set_option maxHeartbeats 6400000 in
theorem rdec_nat (u : Nat) (w : World) (hu : u ≤ 9007199254740991) :
  Calls Tryz.prog 105 #[.int .i64 (u : Int)] w fun e w' => e = .returned (.string ⟨(Lib.decDigits u).toArray⟩) ∧ Below w.heap.size w w' := by
 have hF0 := Fr.nil w
 obtain ⟨R, hR⟩ : ∃ R, R = Lib.decDigits u := ⟨_, rfl⟩
 rw [← hR]
 replace hR := box hR
 have hd0 : decide ((u : Int) < 0) = false := decide_eq_false (by omega)
 have hRl : Box (R.length ≤ 20) := box (by have := decDigits_len 18 u (by omega); rw [hR.out]; omega)
 replace hu := box hu
 go_enter Tryz.func105, Tryz.ntmps105
 go_wp2_with fail
 go_loopg [0, 3] u (fun gk a b wr => ∃ (m : Nat) (s : List UInt8), m ≤ 9007199254740991 ∧ Box (gk = m) ∧ a = .int .i64 (m : Int) ∧ b = .string ⟨s.toArray⟩ ∧ Box (R = Lib.decDigits m ++ s) ∧ Fr [] w wr [])
 case atStart => exact ⟨u, [], hu.out, box rfl, rfl, rfl, box (by rw [hR.out, List.append_nil]), hF0⟩
 case round =>
  clear hF0 hd0
  obtain ⟨m, s, hm, hk, rfl, rfl, hRm, hF⟩ := hrel
  have hsl : s.length ≤ 20 := by have h1 := hRl.out; have h2 := congrArg List.length hRm.out; rw [List.length_append] at h2; omega
  by_cases h9 : 9 < m
  ·have hd : decide ((9 : Int) < (m : Int)) = true := decide_eq_true (by omega)
   obtain ⟨c, hc⟩ : ∃ c, c = UInt8.ofNat (48 + m % 10) := ⟨_, rfl⟩
   have hdb := box (dig_byte m)
   rw [← hc] at hdb
   have hRn : Box (R = Lib.decDigits (m / 10) ++ (c :: s)) := box (by rw [hRm.out, Lib.decDigits, dif_neg (by omega), hc, List.append_assoc]; rfl)
   replace hc := box hc
   go_wp2_with (first | ((with_reducible refine lsx (wp_fb1 T_u8 hF rfl hdb.out (by with_unfolding_all rfl) ?_)); intro w2 g2 hF2 hz2; have hr2 := hF2.rdOwn0) | (with_reducible refine lsx (wp_b2s T_u8 uq5 uq9 hr2 (by with_unfolding_all exact ⟨_, rfl, rfl⟩) ?_)))
   go_roundg (m / 10)
   case rel => exact ⟨m / 10, c :: s, by omega, box rfl, by go_num, by rw [← str_cons c s], hRn, hF2.tail⟩
   case measure => have := hk.out; omega
  ·have hd : decide ((9 : Int) < (m : Int)) = false := decide_eq_false (by omega)
   obtain ⟨c, hc⟩ : ∃ c, c = UInt8.ofNat (48 + m) := ⟨_, rfl⟩
   have hdb : Box (48 + (m : Int) = (c.toNat : Int)) := box (by rw [hc, UInt8.toNat_ofNat']; omega)
   have hRn : Box (R = c :: s) := box (by rw [hRm.out, Lib.decDigits, dif_pos (by omega), hc]; rfl)
   replace hc := box hc
   go_wp2_with (first | ((with_reducible refine lsx (wp_fb1 T_u8 hF rfl hdb.out (by with_unfolding_all rfl) ?_)); intro w2 g2 hF2 hz2; have hr2 := hF2.rdOwn0) | (with_reducible refine lsx (wp_b2s T_u8 uq5 uq9 hr2 (by with_unfolding_all exact ⟨_, rfl, rfl⟩) ?_)))
   go_ret
   exact ⟨by rw [hRn.out, ← str_cons c s]; rfl, hF2.below⟩
theorem natAbs_neg' {n : Int} (h : n < 0) : (-n) = (n.natAbs : Int) := by omega
set_option maxRecDepth 20000 in
set_option maxHeartbeats 6400000 in
theorem rdec_any (n : Int) (w : World) (h0 : -9007199254740991 ≤ n) (h1 : n ≤ 9007199254740991) :
  Calls Tryz.prog 105 #[.int .i64 n] w fun e w' => e = .returned (.string ⟨(Lib.itoa n).toArray⟩) ∧ Below w.heap.size w w' := by
 by_cases hn : n < 0
 ·obtain ⟨R, hR⟩ : ∃ R, R = Lib.itoa n := ⟨_, rfl⟩
  rw [← hR]
  have hit : Box (R = 45 :: Lib.decDigits n.natAbs) := box (by rw [hR]; unfold Lib.itoa; rw [if_pos hn])
  have hdl := decDigits_len 18 n.natAbs (by omega)
  have hd0 : decide (n < 0) = true := decide_eq_true hn
  have hcall := box (fun w' => rdec_nat n.natAbs w' (by omega))
  obtain ⟨N, hN⟩ : ∃ N : Nat, N = n.natAbs := ⟨_, rfl⟩
  rw [← hN] at hcall hit hdl
  have hneg : IntKind.i64.wrap (-n) = (N : Int) := by
   rw [hN, ← natAbs_neg' hn]
   simp [IntKind.wrap, IntKind.bits, IntKind.signed]
   split <;> omega
  have hneg2 : -n = (N : Int) := by rw [hN, ← natAbs_neg' hn]
  replace hneg2 := box hneg2
  replace hN := box hN
  replace hn := box hn
  replace hR := box hR
  replace h0 := box h0
  replace h1 := box h1
  go_enter Tryz.func105, Tryz.ntmps105
  go_wp2_with fail
  refine (hcall.out _).mono ?_
  rintro e w2 ⟨rfl, hb2⟩
  go_wp2_with fail
  go_ret
  exact ⟨by rw [hit.out, ← str_cons 45 (Lib.decDigits N)]; rfl, hb2⟩
 ·obtain ⟨u, rfl⟩ : ∃ u : Nat, n = (u : Int) := ⟨n.toNat, by omega⟩
  have : Lib.itoa (u : Int) = Lib.decDigits u := by unfold Lib.itoa; rw [if_neg hn, Int.toNat_natCast]
  rw [this]
  exact rdec_nat u w (by omega)
end Go.Proofs.YtlhicfpmlncomaaGreatDoor

namespace Go.Proofs.YtlhicfpmlncomaaGreatDoor
open Go.RowKit
def qPairs : List (UInt8 × UInt8) := [(34, 34), (92, 92), (8, 98), (12, 102), (10, 110), (13, 114), (9, 116)]
def qSt (y : UInt8) (O : List UInt8) (q : Nat) : List UInt8 × Bool := (qPairs.take q).foldl (fun st p => if y = p.1 then (st.1 ++ [92, p.2], true) else st) (O, false)
theorem qPairs_at : ∀ q, q < 7 → ∃ a b, ([34, 92, 8, 12, 10, 13, 9] : List UInt8)[q]? = some a ∧ ([34, 92, 98, 102, 110, 114, 116] : List UInt8)[q]? = some b ∧ qPairs[q]? = some (a, b) := by
 intro q hq
 match q, hq with
 | 0, _ => exact ⟨_, _, rfl, rfl, rfl⟩
 | 1, _ => exact ⟨_, _, rfl, rfl, rfl⟩
 | 2, _ => exact ⟨_, _, rfl, rfl, rfl⟩
 | 3, _ => exact ⟨_, _, rfl, rfl, rfl⟩
 | 4, _ => exact ⟨_, _, rfl, rfl, rfl⟩
 | 5, _ => exact ⟨_, _, rfl, rfl, rfl⟩
 | 6, _ => exact ⟨_, _, rfl, rfl, rfl⟩
theorem qSt_step {y a b : UInt8} {O : List UInt8} {q : Nat} (h : qPairs[q]? = some (a, b)) : qSt y O (q + 1) = if y = a then ((qSt y O q).1 ++ [92, b], true) else qSt y O q := by
 unfold qSt
 rw [List.take_add_one, h, Option.toList_some, List.foldl_append]
 rfl
theorem qSt_end {y : UInt8} {O : List UInt8} : (qSt y O 7).2 = true ∧ (qSt y O 7).1 = O ++ jQc y ∨ (qSt y O 7).2 = false ∧ (qSt y O 7).1 = O ∧ (y.toNat < 32 ∧ jQc y = [92, 117, 48, 48, jHexD (y.toNat / 16), jHexD (y.toNat % 16)] ∨ ¬ y.toNat < 32 ∧ jQc y = [y]) := by
 unfold qSt qPairs jQc
 simp only [List.take_succ_cons, List.take_zero, List.foldl_cons, List.foldl_nil]
 by_cases h1 : y = 34
 ·subst h1; left; exact ⟨by simp, by simp⟩
 by_cases h2 : y = 92
 ·subst h2; left; exact ⟨by simp, by simp⟩
 by_cases h3 : y = 8
 ·subst h3; left; exact ⟨by simp, by simp⟩
 by_cases h4 : y = 12
 ·subst h4; left; exact ⟨by simp, by simp⟩
 by_cases h5 : y = 10
 ·subst h5; left; exact ⟨by simp, by simp⟩
 by_cases h6 : y = 13
 ·subst h6; left; exact ⟨by simp, by simp⟩
 by_cases h7 : y = 9
 ·subst h7; left; exact ⟨by simp, by simp⟩
 right
 simp only [h1, h2, h3, h4, h5, h6, h7, if_false, or_self, true_and]
 by_cases h : y.toNat < 32
 ·left; exact ⟨h, by rw [if_pos h]⟩
 ·right; exact ⟨h, by rw [if_neg h]⟩
theorem hex_at : ∀ n, n < 16 → ([48, 49, 50, 51, 52, 53, 54, 55, 56, 57, 97, 98, 99, 100, 101, 102] : List UInt8)[n]? = some (jHexD n) := by decide +kernel
theorem u8_div (y : UInt8) : (y.toNat : Int) / 16 = ((y.toNat / 16 : Nat) : Int) := by omega
theorem u8_rem (y : UInt8) : (y.toNat : Int) % 16 = ((y.toNat % 16 : Nat) : Int) := by omega
set_option maxRecDepth 20000 in
set_option maxHeartbeats 12800000 in
theorem rquote_any (X : List Nat) (w0 w : World) (A : Option Addr) (c : Nat) (out : List UInt8) (rest : List Ent) (s : ByteArray) (hroom : out.length + 6 * s.size ≤ 140737488000000)
  (hF : Fr X w0 w (Ent.bytes w0.heap.size 5 (.slice A out.length c) out :: rest)) :
  Calls Tryz.prog 106 #[.slice A out.length c, .string s] w fun e w' => ∃ v, e = .returned v ∧ Fr X w0 w' (Ent.bytes w0.heap.size 5 v (out ++ jQuote s.data.toList) :: rest) := by
 have hsl : s.data.toList.length = s.size := str_len s
 replace hsl := box hsl
 go_enter Tryz.func106, Tryz.ntmps106
 go_wp2_with (first | ((with_reducible refine lsx (wp_fbsl T_u8 hF (vs := [bv 34]) (by with_unfolding_all rfl) (by with_unfolding_all rfl) (by with_unfolding_all rfl) (by decide) (by simp [bv, Value.cells]) ?_)); intro w1 g1 hF1 hz1; have hr1 : Rd w1 (· < w1.heap.size) (some ⟨g1, 0, none⟩) 1 1 ([34].map bv) := hF1.rdOwn0; replace hF1 : Fr _ _ w1 (Ent.bytes _ 5 (.slice (some ⟨g1, 0, none⟩) 1 1) [34] :: _) := hF1) | ((with_reducible refine lsx (wp_fapp1 T_u8 hF1 (Nat.le_refl _) hr1 (by with_unfolding_all exact ⟨_, _, rfl, rfl, rfl⟩) (by omega) ?_)); intro v2 w2 hF2 hz2))
 have hF3 := hF2.tail
 clear hF hF1 hF2
 go_loopg [0, 8] s.size (fun k v i wr => ∃ (j : Nat) (O : List UInt8), j ≤ s.size ∧ Box (k = s.size - j) ∧ i = .int .i64 (j : Int) ∧ O.length ≤ out.length + 1 + 6 * j ∧ Box (out ++ jQuote s.data.toList = O ++ (s.data.toList.drop j).flatMap jQc ++ [34]) ∧ Fr X w0 wr (Ent.bytes w0.heap.size 5 v O :: rest))
 case atStart => exact ⟨0, _, by omega, box rfl, rfl, by simp, box (by simp [jQuote]), hF3⟩
 case round =>
  clear hF3
  obtain ⟨j, O, hj, hk, rfl, hO, hQ, hF⟩ := hrel
  have hkf : Box (gk = s.size - j) := hk
  clear hk
  by_cases hlt : j < s.size
  ·obtain ⟨y, hy'⟩ : ∃ y, s.data.toList[j]? = some y := ⟨s.data.toList[j]'(by rw [hsl.out]; exact hlt), by simp⟩
   have hdr : s.data.toList.drop j = y :: s.data.toList.drop (j + 1) := by
    rw [List.drop_eq_getElem_cons (by rw [hsl.out]; exact hlt), (List.getElem?_eq_some_iff.1 hy').2]
   have hgo : Box (out ++ jQuote s.data.toList = O ++ jQc y ++ (s.data.toList.drop (j + 1)).flatMap jQc ++ [34]) := box (by rw [hQ.out, hdr, List.flatMap_cons]; simp)
   have hql := jQc_len y
   have hO2 : Box ((O ++ jQc y).length ≤ out.length + 1 + 6 * (j + 1)) := box (by rw [List.length_append]; omega)
   have hyb := y.toNat_lt
   replace hql := box hql
   have hy := box hy'
   clear hy' hdr hQ
   go_wp2_with fail
   go_loopg [0, 9, 10] 7 (fun gq v d k wr => ∃ (q : Nat) (U : List UInt8) (b : Bool), q ≤ 7 ∧ Box (gq = 7 - q) ∧ k = .int .i64 (q : Int) ∧ d = .bool b ∧ Box (qSt y O q = (U, b)) ∧ U.length ≤ O.length + 2 * q ∧ Fr X w0 wr (Ent.bytes w0.heap.size 5 v U :: rest))
   case atStart => exact ⟨0, O, false, by omega, box rfl, rfl, rfl, box rfl, by omega, hF⟩
   case round =>
    clear hF
    obtain ⟨q, U, d, hq, hk, rfl, rfl, hS, hUl, hF⟩ := hrel
    have hkq : Box (_ = 7 - q) := hk
    clear hk
    obtain ⟨Ao, co, rfl, hco, hro⟩ := (hF.own (i := 0) rfl).arg
    by_cases hq7 : q < 7
    ·obtain ⟨a, b, ha', hb', hp⟩ := qPairs_at q hq7
     have hst' := qSt_step (y := y) (O := O) hp
     rw [hS.out] at hst'
     have ha := box ha'
     have hb := box hb'
     clear ha' hb' hp
     by_cases hya : y = a
     ·subst hya
      rw [if_pos rfl] at hst'
      have hst := box hst'
      clear hst'
      go_upto_region 12 with fail
      have hFd := hF.drew
      refine wp_region_held (S := fun _ => True) (by kernel_rfl) ?_
      change wpAnyH _ _ _ _ _ _ _ _ (World.drew _)
      refine tkp 0 trivial ?_
      (try simp only [zP, zQ, zS, zZ, zN])
      refine tkp 1 trivial ?_
      (try simp only [zP, zQ, zS, zZ, zN])
      refine tky 2 (y := yi_sidx (by with_unfolding_all rfl) uq9 rfl hy.out (by with_unfolding_all exact ⟨_, _, _, rfl, rfl, rfl⟩)) (s := trivial) (h := ?_)
      (try simp only [zP, zQ, zS, zZ, zN])
      refine tkp 3 trivial ?_
      (try simp only [zP, zQ, zS, zZ, zN])
      refine tkp 4 trivial ?_
      (try simp only [zP, zQ, zS, zZ, zN])
      refine tky 5 (y := yi_sidx (by with_unfolding_all rfl) uq9 rfl ha.out (by with_unfolding_all exact ⟨_, _, _, rfl, rfl, rfl⟩)) (s := trivial) (h := ?_)
      (try simp only [zP, zQ, zS, zZ, zN])
      refine tkp 6 trivial ?_
      (try simp only [zP, zQ, zS, zZ, zN])
      refine wpAnyH_done (by kernel_rfl) ?_ _
      go_wp2_with (first | ((with_reducible refine lsx (wp_fbsl T_u8 hFd (vs := [bv 92]) (by with_unfolding_all rfl) (by with_unfolding_all rfl) (by with_unfolding_all rfl) (by decide) (by simp [bv, Value.cells]) ?_)); intro w2 g2 hF2 hz2; have hr2 : Rd w2 (· < w2.heap.size) (some ⟨g2, 0, none⟩) 1 1 ([92].map bv) := hF2.rdOwn0; replace hF2 : Fr _ _ w2 (Ent.bytes _ 5 (.slice (some ⟨g2, 0, none⟩) 1 1) [92] :: _) := hF2) | ((with_reducible refine lsx (wp_fapp1 T_u8 hF2 (Nat.le_refl _) hr2 (by with_unfolding_all exact ⟨_, _, rfl, rfl, rfl⟩) (by omega) ?_)); intro v3 w3 hF3 hz3) | ((with_reducible refine lsx (wp_sidx uq9 (k := q) rfl hb.out (by with_unfolding_all exact ⟨_, _, _, rfl, rfl, rfl⟩) ?_))) | ((with_reducible refine lsx (wp_fbsl T_u8 hF3 (vs := [bv b]) (by with_unfolding_all rfl) (by with_unfolding_all rfl) (by with_unfolding_all rfl) (by decide) (by simp [bv, Value.cells]) ?_)); intro w4 g4 hF4 hz4; have hr4 : Rd w4 (· < w4.heap.size) (some ⟨g4, 0, none⟩) 1 1 ([b].map bv) := hF4.rdOwn0; replace hF4 : Fr _ _ w4 (Ent.bytes _ 5 (.slice (some ⟨g4, 0, none⟩) 1 1) [b] :: _) := hF4) | ((with_reducible refine lsx (wp_fapp2 T_u8 hF4 (Nat.le_refl _) hr4 (by with_unfolding_all exact ⟨_, _, rfl, rfl, rfl⟩) (by simp; omega) ?_)); intro v5 w5 hF5 hz5))
      go_roundg (7 - (q + 1))
      case rel => exact ⟨q + 1, U ++ [92] ++ [b], true, by omega, box rfl, by go_num, rfl, box (by rw [hst.out, List.append_assoc]; rfl), by simp only [List.length_append, List.length_cons, List.length_nil]; omega, hF5.tail.tail⟩
      case measure => have := hkq.out; omega
     ·rw [if_neg hya] at hst'
      have hst := box hst'
      have hne : ((y.toNat : Int) == (a.toNat : Int)) = false := u8_ne hya
      clear hst'
      replace hya := box hya
      go_upto_region 12 with fail
      have hFd := hF.drew
      refine wp_region_held (S := fun _ => True) (by kernel_rfl) ?_
      change wpAnyH _ _ _ _ _ _ _ _ (World.drew _)
      refine tkp 0 trivial ?_
      (try simp only [zP, zQ, zS, zZ, zN])
      refine tkp 1 trivial ?_
      (try simp only [zP, zQ, zS, zZ, zN])
      refine tky 2 (y := yi_sidx (by with_unfolding_all rfl) uq9 rfl hy.out (by with_unfolding_all exact ⟨_, _, _, rfl, rfl, rfl⟩)) (s := trivial) (h := ?_)
      (try simp only [zP, zQ, zS, zZ, zN])
      refine tkp 3 trivial ?_
      (try simp only [zP, zQ, zS, zZ, zN])
      refine tkp 4 trivial ?_
      (try simp only [zP, zQ, zS, zZ, zN])
      refine tky 5 (y := yi_sidx (by with_unfolding_all rfl) uq9 rfl ha.out (by with_unfolding_all exact ⟨_, _, _, rfl, rfl, rfl⟩)) (s := trivial) (h := ?_)
      (try simp only [zP, zQ, zS, zZ, zN])
      refine tkp 6 trivial ?_
      (try simp only [zP, zQ, zS, zZ, zN])
      refine wpAnyH_done (by kernel_rfl) ?_ _
      go_wp2_with fail
      go_roundg (7 - (q + 1))
      case rel => exact ⟨q + 1, U, d, by omega, box rfl, by go_num, rfl, hst, by omega, hFd⟩
      case measure => have := hkq.out; omega
    ·obtain rfl : q = 7 := by omega
     have hE := @qSt_end y O
     rw [hS.out] at hE
     simp only [] at hE
     clear hq7 hq
     rcases hE with ⟨hd, hU⟩ | ⟨hd, hU, hc⟩
     ·subst hd
      replace hU := box hU
      go_wp2_with fail
      go_roundg (s.size - (j + 1))
      case rel => exact ⟨j + 1, U, by omega, box rfl, by go_num, by rw [hU.out]; exact hO2.out, box (by rw [hU.out]; exact hgo.out), hF⟩
      case measure => have := hkf.out; omega
     ·subst hd
      subst hU
      rcases hc with ⟨h32, hc⟩ | ⟨h32, hc⟩
      ·rw [hc] at hgo hO2
       have d32 : decide ((y.toNat : Int) < 32) = true := decide_eq_true (by omega)
       have hx1 := box (hex_at (y.toNat / 16) (by omega))
       have hx2 := box (hex_at (y.toNat % 16) (by omega))
       obtain ⟨p, hp⟩ : ∃ p, p = jHexD (y.toNat / 16) := ⟨_, rfl⟩
       obtain ⟨r, hr⟩ : ∃ r, r = jHexD (y.toNat % 16) := ⟨_, rfl⟩
       rw [← hp] at hgo hO2 hx1
       rw [← hr] at hgo hO2 hx2
       have hj1 := box (u8_div y)
       have hj2 := box (u8_rem y)
       clear hp hr hc
       replace h32 := box h32
       go_wp2_with (first | ((with_reducible refine lsx (wp_sidx uq9 (k := j) rfl hy.out (by with_unfolding_all exact ⟨_, _, _, rfl, rfl, rfl⟩) ?_))) | ((with_reducible refine lsx (wp_fbsl T_u8 hF (vs := [bv 92, bv 117, bv 48, bv 48]) (by with_unfolding_all rfl) (by with_unfolding_all rfl) (by with_unfolding_all rfl) (by decide) (by simp [bv, Value.cells]) ?_)); intro w2 g2 hF2 hz2; have hr2 : Rd w2 (· < w2.heap.size) (some ⟨g2, 0, none⟩) 1 4 (([92,117,48,48] : List UInt8).map bv) := hF2.rdOwn (i := 0) rfl) | ((with_reducible refine lsx (wp_fmark T_u8 uq5 hF2 (by with_unfolding_all exact ⟨_, rfl, rfl⟩) ?_)); intro w3 hF3 hz3) | ((with_reducible refine lsx (wp_fapp1 T_u8 hF3 (Nat.le_refl _) (hF3.rd (i := 0) rfl : Rd _ _ _ 1 4 (([92,117,48,48] : List UInt8).map bv)) (by with_unfolding_all exact ⟨_, _, rfl, rfl, rfl⟩) (by simp; omega) ?_)); intro v4 w4 hF4 hz4) | ((with_reducible refine lsx (wp_sidx uq9 (k := y.toNat / 16) (by first | exact hj1.out | exact hj2.out | omega) hx1.out (by with_unfolding_all exact ⟨_, _, _, rfl, rfl, rfl⟩) ?_))) | ((with_reducible refine lsx (wp_sidx uq9 (k := y.toNat % 16) (by first | exact hj2.out | omega) hx2.out (by with_unfolding_all exact ⟨_, _, _, rfl, rfl, rfl⟩) ?_))) | ((with_reducible refine lsx (wp_fbsl T_u8 hF4 (vs := [bv p]) (by with_unfolding_all rfl) (by with_unfolding_all rfl) (by with_unfolding_all rfl) (by decide) (by simp [bv, Value.cells]) ?_)); intro w5 g5 hF5 hz5; have hr5 : Rd w5 (· < w5.heap.size) (some ⟨g5, 0, none⟩) 1 1 ([p].map bv) := hF5.rdOwn0; replace hF5 : Fr _ _ w5 (Ent.bytes _ 5 (.slice (some ⟨g5, 0, none⟩) 1 1) [p] :: _) := hF5) | ((with_reducible refine lsx (wp_fapp2 T_u8 hF5 (Nat.le_refl _) hr5 (by with_unfolding_all exact ⟨_, _, rfl, rfl, rfl⟩) (by simp; omega) ?_)); intro v6 w6 hF6 hz6) | ((with_reducible refine lsx (wp_fbsl T_u8 hF6 (vs := [bv r]) (by with_unfolding_all rfl) (by with_unfolding_all rfl) (by with_unfolding_all rfl) (by decide) (by simp [bv, Value.cells]) ?_)); intro w7 g7 hF7 hz7; have hr7 : Rd w7 (· < w7.heap.size) (some ⟨g7, 0, none⟩) 1 1 ([r].map bv) := hF7.rdOwn0; replace hF7 : Fr _ _ w7 (Ent.bytes _ 5 (.slice (some ⟨g7, 0, none⟩) 1 1) [r] :: _) := hF7) | ((with_reducible refine lsx (wp_fapp3 T_u8 hF7 (Nat.le_refl _) hr7 (by with_unfolding_all exact ⟨_, _, rfl, rfl, rfl⟩) (by simp; omega) ?_)); intro v8 w8 hF8 hz8))
       go_roundg (s.size - (j + 1))
       case rel => exact ⟨j + 1, U ++ [92, 117, 48, 48, p, r], by omega, box rfl, by go_num, hO2.out, hgo, by have h5 := hF8.tail.tail.tail; simp only [List.append_assoc, List.cons_append, List.nil_append] at h5; exact h5⟩
       case measure => have := hkf.out; omega
      ·rw [hc] at hgo hO2
       have d32 : decide ((y.toNat : Int) < 32) = false := decide_eq_false (by omega)
       replace h32 := box h32
       clear hc
       go_wp2_with (first | ((with_reducible refine lsx (wp_sidx uq9 (k := j) rfl hy.out (by with_unfolding_all exact ⟨_, _, _, rfl, rfl, rfl⟩) ?_))) | ((with_reducible refine lsx (wp_fbsl T_u8 hF (vs := [bv y]) (by with_unfolding_all rfl) (by with_unfolding_all rfl) (by with_unfolding_all rfl) (by decide) (by simp [bv, Value.cells]) ?_)); intro w2 g2 hF2 hz2; have hr2 : Rd w2 (· < w2.heap.size) (some ⟨g2, 0, none⟩) 1 1 ([y].map bv) := hF2.rdOwn0; replace hF2 : Fr _ _ w2 (Ent.bytes _ 5 (.slice (some ⟨g2, 0, none⟩) 1 1) [y] :: _) := hF2) | ((with_reducible refine lsx (wp_fapp1 T_u8 hF2 (Nat.le_refl _) hr2 (by with_unfolding_all exact ⟨_, _, rfl, rfl, rfl⟩) (by omega) ?_)); intro v3 w3 hF3 hz3))
       go_roundg (s.size - (j + 1))
       case rel => exact ⟨j + 1, U ++ [y], by omega, box rfl, by go_num, hO2.out, hgo, hF3.tail⟩
       case measure => have := hkf.out; omega
  ·have hjs : s.size = j := by omega
   have hend : Box (out ++ jQuote s.data.toList = O ++ [34]) := box (by rw [hQ.out, List.drop_of_length_le (by rw [hsl.out]; omega)]; simp)
   obtain ⟨Ao, co, rfl, hco, hro⟩ := (hF.own (i := 0) rfl).arg
   clear hQ hkf
   go_wp2_with (first | ((with_reducible refine lsx (wp_fbsl T_u8 hF (vs := [bv 34]) (by with_unfolding_all rfl) (by with_unfolding_all rfl) (by with_unfolding_all rfl) (by decide) (by simp [bv, Value.cells]) ?_)); intro w1 g1 hF1 hz1; have hr1 : Rd w1 (· < w1.heap.size) (some ⟨g1, 0, none⟩) 1 1 ([34].map bv) := hF1.rdOwn0; replace hF1 : Fr _ _ w1 (Ent.bytes _ 5 (.slice (some ⟨g1, 0, none⟩) 1 1) [34] :: _) := hF1) | ((with_reducible refine lsx (wp_fapp1 T_u8 hF1 (Nat.le_refl _) hr1 (by with_unfolding_all exact ⟨_, _, rfl, rfl, rfl⟩) (by omega) ?_)); intro v2 w2 hF2 hz2))
   go_ret
   exact ⟨_, rfl, by rw [hend.out]; exact hF2.tail⟩
end Go.Proofs.YtlhicfpmlncomaaGreatDoor

/-
 Layer 8: the document's RightNotes and RightDesc, walked.
 Layer 8: the document's desc, walked.
 Layer 8: the document's edges, walked.
 Layer 8: the document's RightDesc and Right, walked.
 Layer 8: the document's SameNotes at one list twice.
 Layer 8: the document's Same at one document twice.
 Layer 8: the program's rightNotes, rightDesc and right, walked.
-/
import Derived.Test.YtlhicfpmlncomaaGreatDoorL19
import Derived.Test.YtlhicfpmlncomaaGreatDoorL03
import Derived.Test.YtlhicfpmlncomaaGreatDoorL14
import Derived.Test.YtlhicfpmlncomaaGreatDoorL12
import Derived.Test.YtlhicfpmlncomaaGreatDoorL11
import Derived.Laws.StructEq
import Derived.Test.YtlhicfpmlncomaaGreatDoorL13
import Derived.Test.YtlhicfpmlncomaaGreatDoorL15
set_option linter.unusedSimpArgs false
namespace Go.Proofs.YtlhicfpmlncomaaGreatDoor
open Go.RowKit
set_option linter.unusedSimpArgs false
set_option linter.unusedVariables false
/-- Notes, texts that are small. -/
def NtSm (l : List MNote) : Prop := l.length ≤ 1000000 ∧ ∀ x ∈ l, x.key.length ≤ 100000000 ∧ x.val.length ≤ 100000000
/-- The first notes are right. -/
def rnGood (l : List MNote) (i : Nat) : Prop := ∀ j x, j < i → l[j]? = some x → Lib.validD x.key = true ∧ Lib.validD x.val = true ∧ ∀ k y, k < j → l[k]? = some y → y.key ≠ x.key
theorem rnGood_all {l : List MNote} (h32 : l.length ≤ 32) (h : rnGood l l.length) : mRightN l := by
 refine ⟨h32, fun x hx => ?_, ?_⟩
 ·obtain ⟨j, hj⟩ := List.mem_iff_getElem?.1 hx
  have := h j x (List.getElem?_eq_some_iff.1 hj).1 hj
  exact ⟨this.1, this.2.1⟩
 ·rw [List.Nodup, List.pairwise_iff_getElem]
  intro i j hi hj hij
  rw [List.length_map] at hi hj
  rw [List.getElem_map, List.getElem_map]
  exact (h j l[j] hj (List.getElem?_eq_getElem hj)).2.2 i l[i] hij (List.getElem?_eq_getElem hi)
theorem rnBad_v {l : List MNote} {i : Nat} {x : MNote} (hx : l[i]? = some x) (h : Lib.validD x.key = false ∨ Lib.validD x.val = false) : ¬ mRightN l := fun hr => by
 have := hr.2.1 x (List.mem_of_getElem? hx)
 rcases h with h | h
 ·rw [h] at this; exact absurd this.1 (by decide)
 ·rw [h] at this; exact absurd this.2 (by decide)
theorem rnBad_k {l : List MNote} {i k : Nat} {x y : MNote} (hx : l[i]? = some x) (hy : l[k]? = some y) (hk : k < i) (h : y.key = x.key) : ¬ mRightN l := fun hr => by
 have hn := hr.2.2
 rw [List.Nodup, List.pairwise_iff_getElem] at hn
 obtain ⟨hi, rfl⟩ := List.getElem?_eq_some_iff.1 hx
 obtain ⟨hk2, rfl⟩ := List.getElem?_eq_some_iff.1 hy
 have := hn k i (by rw [List.length_map]; exact hk2) (by rw [List.length_map]; exact hi) hk
 rw [List.getElem_map, List.getElem_map] at this
 exact this h
end Go.Proofs.YtlhicfpmlncomaaGreatDoor

namespace Go.Proofs.YtlhicfpmlncomaaGreatDoor
open Go.RowKit
set_option linter.unusedSimpArgs false
set_option linter.unusedVariables false
end Go.Proofs.YtlhicfpmlncomaaGreatDoor

namespace Go.Proofs.YtlhicfpmlncomaaGreatDoor
open Go.RowKit
set_option linter.unusedSimpArgs false
set_option linter.unusedVariables false
end Go.Proofs.YtlhicfpmlncomaaGreatDoor

namespace Go.Proofs.YtlhicfpmlncomaaGreatDoor
open Go.RowKit
set_option linter.unusedSimpArgs false
set_option linter.unusedVariables false
def DsSm (d : MDesc) : Prop := d.media.length ≤ 100000000 ∧ NtSm d.notes
def DcSm (d : MDoc) : Prop := d.media.length ≤ 100000000 ∧ d.type.length ≤ 100000000 ∧ DsSm d.config ∧ (d.edges.length ≤ 1000000 ∧ ∀ x ∈ d.edges, DsSm x) ∧ DsSm d.subject ∧ NtSm d.notes
end Go.Proofs.YtlhicfpmlncomaaGreatDoor

namespace Go.Proofs.YtlhicfpmlncomaaGreatDoor
open Go.RowKit
set_option linter.unusedSimpArgs false
set_option linter.unusedVariables false
/-- The fields of a note. -/
structure NoteT (P : Program) (t : TypeId) (f0 f1 : Field) : Prop where
 und : P.underlying t = some (.struct #[f0, f1])
 nam : [f0, f1].all (fun f => f.name != "_") = true
 off : [f0, f1].map (·.offset) = [0, 1]
 typ : [f0, f1].map (fun f => P.underlying f.type) = [some .string, some .string]
 stood : P.stoodInHeld t = false
 grd : P.eqGuardType P.depth t = false
section
variable {P : Program} {o : Oper} {a : Act} {w : World}
theorem run_eqNote {t : TypeId} {f0 f1 : Field} (T : NoteT P t f0 f1) (x : MNote) (k : Nat) (w : World) :
  (Op.equalIn (k + 3) t (.agg (ntL x).toArray) (.agg (ntL x).toArray)).run P w = .ok true w := by
 have hf : P.fieldsOf t = #[f0, f1] := by unfold Program.fieldsOf; rw [T.und]
 have ho := T.off
 have ht := T.typ
 have hn := T.nam
 simp only [List.map_cons, List.map_nil, List.cons.injEq, and_true] at ho ht
 simp only [List.all_cons, List.all_nil, Bool.and_true, Bool.and_eq_true, bne_iff_ne, ne_eq] at hn
 obtain ⟨o0, o1⟩ := ho
 obtain ⟨t0, t1⟩ := ht
 obtain ⟨n0, n1⟩ := hn
 rw [run_equalIn_struct w (k + 2) t _ _ (by rw [hf]; exact T.und) T.stood, hf]
 have p1 : ∀ (f : Field) (v : Value), P.underlying f.type = some .string → (ntL x)[f.offset]? = some v → (Go.part f.type (ntL x).toArray f.offset).run P w = .ok v w := fun f v hu hv => by
  have hagg : (isAgg f.type).run P w = .ok false w := by rw [run_isAgg hu w]; rfl
  simp [Go.part, hagg, hv]
 have e0 : (ntL x)[f0.offset]? = some (.string ⟨x.key.toArray⟩) := by rw [o0]; rfl
 have e1 : (ntL x)[f1.offset]? = some (.string ⟨x.val.toArray⟩) := by rw [o1]; rfl
 have q0 : (Op.equalIn (k + 2) f0.type (.string ⟨x.key.toArray⟩) (.string ⟨x.key.toArray⟩)).run P w = .ok ((⟨x.key.toArray⟩ : ByteArray).toList == (⟨x.key.toArray⟩ : ByteArray).toList) w := run_equalIn_string w (k + 1) _ _ _ t0
 have q1 : (Op.equalIn (k + 2) f1.type (.string ⟨x.val.toArray⟩) (.string ⟨x.val.toArray⟩)).run P w = .ok ((⟨x.val.toArray⟩ : ByteArray).toList == (⟨x.val.toArray⟩ : ByteArray).toList) w := run_equalIn_string w (k + 1) _ _ _ t1
 rw [beq_self_eq_true] at q0 q1
 have x0 := p1 f0 _ t0 e0
 have x1 := p1 f1 _ t1 e1
 simp only [Op.eqFields, n0, n1, not_false_eq_true, if_true, Sem.run_bind, x0, q0, x1, q1, Result.andThen_ok, ne_eq, Bool.not_true, Bool.false_eq_true, if_false]
 simp
theorem yi_neN {S : World → Prop} {ops : Array Oper} (hw : Region.wanted o (yielded ops a.tmps) = true) {t : TypeId} {f0 f1 : Field} (T : NoteT P t f0 f1) {x : MNote}
  {p q : Operand} {ty : TypeId} (ho : o.op = .binOp .neq t p q ty) (hp : a.eval p = .agg (ntL x).toArray) (hq : a.eval q = .agg (ntL x).toArray) : YieldsIf P ops S o (.bool false) a := by
 refine yi_run hw fun w _ => ?_
 have h1 := run_eqGuard_agg (P := P) w .neq t p q (ntL x).toArray (ntL x).toArray T.grd
 have h2 := run_neq_struct (P := P) w t (ntL x).toArray (ntL x).toArray
 have h3 := run_eqNote T x 9997 w
 unfold execOp
 simp only [ho, hp, hq, Sem.run_bind, h1, h2, h3, Result.andThen_ok, Sem.run_pure]
 rfl
end
theorem NT8 : ∃ f0 f1, NoteT Tryz.prog 149 f0 f1 := ⟨_, _, Tryz.underlying149, by kernel_rfl, by kernel_rfl, by kernel_rfl, by kernel_rfl, by kernel_rfl⟩
set_option maxRecDepth 20000 in
set_option maxHeartbeats 3200000 in
theorem sameNotes_any (l : List MNote) (u v : Value) (w : World) (hbd : l.length ≤ 1048576) (h1 : RdN w l u) (h2 : RdN w l v) :
  Calls Tryz.prog 35 #[u, v] w fun e w' => e = .returned (.bool true) ∧ Below w.heap.size w w' := by
 obtain ⟨A1, n, c1, _, hn, rfl, hr1⟩ := h1
 obtain ⟨A2, n2, c2, _, hn2, rfl, hr2⟩ := h2
 obtain rfl : n = n2 := by omega
 obtain ⟨f0, f1, hNT'⟩ := NT8
 have hNT := box hNT'
 clear hNT' hn2
 replace hn := box hn
 replace hbd : n ≤ 1048576 := by rw [hn.out]; exact hbd
 have hF0 := Fr.nil w
 go_enter Tryz.func35, Tryz.ntmps35
 go_wp2_with fail
 go_loopg [5] n (fun g iv wr => ∃ i : Nat, i ≤ n ∧ Box (g = n - i) ∧ iv = .int .i64 (i : Int) ∧ Fr [] w wr [])
 case atStart => exact ⟨0, by omega, box rfl, rfl, hF0⟩
 case round =>
  clear hF0
  obtain ⟨i, hi, hgi, rfl, hF⟩ := hrel
  have hkk : Box (_ = n - i) := hgi
  clear hgi
  by_cases hlt : i < n
  ·obtain ⟨x, hx⟩ : ∃ x, l[i]? = some x := ⟨l[i]'(by rw [← hn.out]; exact hlt), by simp⟩
   have hxc := box (ntsL_at hx)
   clear hx
   go_upto_region 6 with fail
   have hFd := hF.drew
   refine wp_region_held (S := fun w' => Rd w' (· < w.heap.size) A1 2 n (ntsL l) ∧ Rd w' (· < w.heap.size) A2 2 n (ntsL l)) (by kernel_rfl) ?_
   change wpAnyH _ _ _ _ _ _ _ _ (World.drew _)
   refine tkp 0 ⟨hr1.below hFd.below, hr2.below hFd.below⟩ ?_
   (try simp only [zP, zQ, zS, zZ, zN])
   refine tkp 1 ⟨hr1.below hFd.below, hr2.below hFd.below⟩ ?_
   (try simp only [zP, zQ, zS, zZ, zN])
   refine tky 2 (y := yi_ix (by with_unfolding_all rfl) T_rnotes (fun h => hr1.some_ h) (k := i) (by with_unfolding_all exact ⟨_, _, _, _, rfl, rfl, rfl⟩) rfl (by omega)) (s := ⟨hr1.below hFd.below, hr2.below hFd.below⟩) (h := ?_)
   (try simp only [zP, zQ, zS, zZ, zN])
   refine tky 3 (y := yi_ldA (by with_unfolding_all rfl) (fun _ h => h.1) Tryz.underlying149 rfl (by with_unfolding_all exact ⟨_, rfl, rfl⟩) (ds := ntL x) (by kernel_rfl) hxc.out) (s := ⟨hr1.below hFd.below, hr2.below hFd.below⟩) (h := ?_)
   (try simp only [zP, zQ, zS, zZ, zN])
   refine tkp 4 ⟨hr1.below hFd.below, hr2.below hFd.below⟩ ?_
   (try simp only [zP, zQ, zS, zZ, zN])
   refine tkp 5 ⟨hr1.below hFd.below, hr2.below hFd.below⟩ ?_
   (try simp only [zP, zQ, zS, zZ, zN])
   refine tky 6 (y := yi_ix (by with_unfolding_all rfl) T_rnotes (fun h => hr2.some_ h) (k := i) (by with_unfolding_all exact ⟨_, _, _, _, rfl, rfl, rfl⟩) rfl (by omega)) (s := ⟨hr1.below hFd.below, hr2.below hFd.below⟩) (h := ?_)
   (try simp only [zP, zQ, zS, zZ, zN])
   refine tky 7 (y := yi_ldA (by with_unfolding_all rfl) (fun _ h => h.2) Tryz.underlying149 rfl (by with_unfolding_all exact ⟨_, rfl, rfl⟩) (ds := ntL x) (by kernel_rfl) hxc.out) (s := ⟨hr1.below hFd.below, hr2.below hFd.below⟩) (h := ?_)
   (try simp only [zP, zQ, zS, zZ, zN])
   refine tky 8 (y := yi_neN (by with_unfolding_all rfl) hNT.out (x := x) (by with_unfolding_all rfl) (by with_unfolding_all rfl) (by with_unfolding_all rfl)) (s := ⟨hr1.below hFd.below, hr2.below hFd.below⟩) (h := ?_)
   (try simp only [zP, zQ, zS, zZ, zN])
   refine wpAnyH_done (by kernel_rfl) ?_ _
   go_wp2_with fail
   go_roundg (n - (i + 1))
   case rel => exact ⟨i + 1, by omega, box rfl, by go_num, hFd⟩
   case measure => have := hkk.out; omega
  ·go_wp2_with fail
   go_ret
   exact ⟨rfl, hF.below⟩
end Go.Proofs.YtlhicfpmlncomaaGreatDoor

namespace Go.Proofs.YtlhicfpmlncomaaGreatDoor
open Go.RowKit
set_option linter.unusedSimpArgs false
set_option linter.unusedVariables false
set_option maxRecDepth 20000 in
set_option maxHeartbeats 1600000 in
theorem sameDesc_any (d : MDesc) (ca cb : List Value) (w : World) (hbd : d.notes.length ≤ 1048576) (h1 : RdD w d ca) (h2 : RdD w d cb) :
  Calls Tryz.prog 34 #[.agg ca.toArray, .agg cb.toArray] w fun e w' => e = .returned (.bool true) ∧ Below w.heap.size w w' := by
 have hF0 := Fr.nil w
 obtain ⟨m, dg, z, nts⟩ := d
 obtain ⟨_, hd', hN1, rfl⟩ := h1
 obtain ⟨_, _, hN2, rfl⟩ := h2
 have hsn := box (fun (w' : World) (hb : Below w.heap.size w w') => sameNotes_any nts _ _ w' hbd (hN1.on hb) (hN2.on hb))
 obtain ⟨A1, n1, c1, _, hq1, rfl, _⟩ := hN1
 obtain ⟨A2, n2, c2, _, hq2, rfl, _⟩ := hN2
 clear hq1 hq2
 simp only [] at hd' hsn ⊢
 have hd := box hd'
 have heq : ∀ w, (Op.equalIn 10000 24 (.agg (dg.map bv).toArray) (.agg (dg.map bv).toArray)).run Tryz.prog w = .ok true w := fun w => by
  have h := run_eqBytes (P := Tryz.prog) Tryz.underlying24 Tryz.underlying5 (by kernel_rfl) dg dg hd' hd' 9998 w
  rw [beq_self_eq_true] at h
  exact h
 clear hd' hbd
 go_enter Tryz.func34, Tryz.ntmps34
 go_wp2_with (first | ((with_reducible refine lsx (wp_fbox hF0 (cs := (dsL m dg z (.slice A1 n1 c1))) rfl (by with_unfolding_all rfl) (by with_unfolding_all rfl) ?_)); intro w1 g1 hF1 hz1) | ((with_reducible refine lsx (wp_fbox hF1 (cs := (dsL m dg z (.slice A2 n2 c2))) rfl (by with_unfolding_all rfl) (by with_unfolding_all rfl) ?_)); intro w2 g2 hF2 hz2) | (with_reducible refine lsx (wp_fld1 hF2 Tryz.underlying9 rfl (by with_unfolding_all exact ⟨_, rfl, rfl⟩) dsL_m0 ?_)) | (with_reducible refine lsx (wp_fldA1 hF2 Tryz.underlying24 rfl (by with_unfolding_all exact ⟨_, rfl, rfl⟩) (ds := (dg.map bv)) (by rw [List.length_map, hd.out]; kernel_rfl) (by rw [List.length_map, hd.out]; exact dsL_dig hd.out) ?_)) | (with_reducible refine lsx (wp_fld1 hF2 Tryz.underlying3 rfl (by with_unfolding_all exact ⟨_, rfl, rfl⟩) (dsL_size hd.out) ?_)) | (with_reducible refine lsx (wp_fld1 hF2 Tryz.underlying35 rfl (by with_unfolding_all exact ⟨_, rfl, rfl⟩) (dsL_notes hd.out) ?_)) | (with_reducible refine lsx (wp_fld0 hF2 Tryz.underlying9 rfl (by with_unfolding_all exact ⟨_, rfl, rfl⟩) dsL_m0 ?_)) | (with_reducible refine lsx (wp_fldA0 hF2 Tryz.underlying24 rfl (by with_unfolding_all exact ⟨_, rfl, rfl⟩) (ds := (dg.map bv)) (by rw [List.length_map, hd.out]; kernel_rfl) (by rw [List.length_map, hd.out]; exact dsL_dig hd.out) ?_)) | (with_reducible refine lsx (wp_fld0 hF2 Tryz.underlying3 rfl (by with_unfolding_all exact ⟨_, rfl, rfl⟩) (dsL_size hd.out) ?_)) | (with_reducible refine lsx (wp_fld0 hF2 Tryz.underlying35 rfl (by with_unfolding_all exact ⟨_, rfl, rfl⟩) (dsL_notes hd.out) ?_)))
 refine (hsn.out _ hF2.below).mono ?_
 rintro e w3 ⟨rfl, hb3⟩
 have hF3 := hF2.call hb3
 go_wp2_with fail
 go_ret
 exact ⟨by simp, hF3.below⟩
set_option maxRecDepth 20000 in
set_option maxHeartbeats 3200000 in
theorem sameDescs_any (l : List MDesc) (u v : Value) (w : World) (hbd : l.length ≤ 1048576) (hbs : ∀ x ∈ l, x.notes.length ≤ 1048576) (h1 : RdE w l u) (h2 : RdE w l v) :
  Calls Tryz.prog 25 #[u, v] w fun e w' => e = .returned (.bool true) ∧ Below w.heap.size w w' := by
 obtain ⟨A1, n, c1, xs, _, hn, rfl, hr1, hx1⟩ := h1
 obtain ⟨A2, n2, c2, ys, _, hn2, rfl, hr2, hx2⟩ := h2
 obtain rfl : n = n2 := by omega
 clear hn2
 replace hn := box hn
 replace hx1 := box hx1
 replace hx2 := box hx2
 replace hbs := box hbs
 replace hbd : n ≤ 1048576 := by rw [hn.out]; exact hbd
 have hF0 := Fr.nil w
 go_enter Tryz.func25, Tryz.ntmps25
 go_wp2_with fail
 go_loopg [5] n (fun g iv wr => ∃ i : Nat, i ≤ n ∧ Box (g = n - i) ∧ iv = .int .i64 (i : Int) ∧ Fr [] w wr [])
 case atStart => exact ⟨0, by omega, box rfl, rfl, hF0⟩
 case round =>
  clear hF0
  obtain ⟨i, hi, hgi, rfl, hF⟩ := hrel
  have hkk : Box (_ = n - i) := hgi
  clear hgi
  by_cases hlt : i < n
  ·obtain ⟨x, hx⟩ : ∃ x, l[i]? = some x := ⟨l[i]'(by rw [← hn.out]; exact hlt), by simp⟩
   obtain ⟨ca, hca'⟩ : ∃ ca, ca = (xs.drop (i * 35)).take 35 := ⟨_, rfl⟩
   obtain ⟨cb, hcb'⟩ : ∃ cb, cb = (ys.drop (i * 35)).take 35 := ⟨_, rfl⟩
   have hda := hx1.out i x hx
   have hdb := hx2.out i x hx
   rw [← hca'] at hda
   rw [← hcb'] at hdb
   have hcal := box hda.len
   have hcbl := box hdb.len
   have hsd := box (fun (w' : World) (hb : Below w.heap.size w w') => sameDesc_any x ca cb w' (hbs.out x (List.mem_of_getElem? hx)) (hda.on hb) (hdb.on hb))
   have hca := box hca'.symm
   have hcb := box hcb'.symm
   clear hx hca' hcb' hda hdb
   go_upto_region 6 with fail
   have hFd := hF.drew
   refine wp_region_held (S := fun w' => Rd w' (· < w.heap.size) A1 35 n xs ∧ Rd w' (· < w.heap.size) A2 35 n ys) (by kernel_rfl) ?_
   change wpAnyH _ _ _ _ _ _ _ _ (World.drew _)
   refine tkp 0 ⟨hr1.below hFd.below, hr2.below hFd.below⟩ ?_
   (try simp only [zP, zQ, zS, zZ, zN])
   refine tkp 1 ⟨hr1.below hFd.below, hr2.below hFd.below⟩ ?_
   (try simp only [zP, zQ, zS, zZ, zN])
   refine tky 2 (y := yi_ix (by with_unfolding_all rfl) T_rdescs (fun h => hr1.some_ h) (k := i) (by with_unfolding_all exact ⟨_, _, _, _, rfl, rfl, rfl⟩) rfl (by omega)) (s := ⟨hr1.below hFd.below, hr2.below hFd.below⟩) (h := ?_)
   (try simp only [zP, zQ, zS, zZ, zN])
   refine tky 3 (y := yi_ldA (by with_unfolding_all rfl) (fun _ h => h.1) Tryz.underlying37 rfl (by with_unfolding_all exact ⟨_, rfl, rfl⟩) (ds := ca) (by rw [hcal.out]; kernel_rfl) (by rw [hcal.out]; exact hca.out)) (s := ⟨hr1.below hFd.below, hr2.below hFd.below⟩) (h := ?_)
   (try simp only [zP, zQ, zS, zZ, zN])
   refine tkp 4 ⟨hr1.below hFd.below, hr2.below hFd.below⟩ ?_
   (try simp only [zP, zQ, zS, zZ, zN])
   refine tkp 5 ⟨hr1.below hFd.below, hr2.below hFd.below⟩ ?_
   (try simp only [zP, zQ, zS, zZ, zN])
   refine tky 6 (y := yi_ix (by with_unfolding_all rfl) T_rdescs (fun h => hr2.some_ h) (k := i) (by with_unfolding_all exact ⟨_, _, _, _, rfl, rfl, rfl⟩) rfl (by omega)) (s := ⟨hr1.below hFd.below, hr2.below hFd.below⟩) (h := ?_)
   (try simp only [zP, zQ, zS, zZ, zN])
   refine tky 7 (y := yi_ldA (by with_unfolding_all rfl) (fun _ h => h.2) Tryz.underlying37 rfl (by with_unfolding_all exact ⟨_, rfl, rfl⟩) (ds := cb) (by rw [hcbl.out]; kernel_rfl) (by rw [hcbl.out]; exact hcb.out)) (s := ⟨hr1.below hFd.below, hr2.below hFd.below⟩) (h := ?_)
   (try simp only [zP, zQ, zS, zZ, zN])
   refine rdy1 8 (fun K hK => ?_)
   refine stp (by with_unfolding_all rfl) (wp_call Tryz.func34 rfl (by with_unfolding_all rfl) (by with_unfolding_all rfl) (by with_unfolding_all rfl) (hsd.out _ hFd.below) ?_)
   rintro e w41 ⟨rfl, hb41⟩
   refine ⟨_, rfl, ?_⟩
   have hF41 := hFd.call hb41
   refine hK.out _ _ (⟨hr1.below hF41.below, hr2.below hF41.below⟩) (fun _ => ?_)
   clear hK K
   (try simp only [zP, zQ, zS, zZ, zN])
   refine tkp 9 ⟨hr1.below hF41.below, hr2.below hF41.below⟩ ?_
   (try simp only [zP, zQ, zS, zZ, zN])
   refine wpAnyH_done (by kernel_rfl) ?_ _
   go_wp2_with fail
   go_roundg (n - (i + 1))
   case rel => exact ⟨i + 1, by omega, box rfl, by go_num, hF41⟩
   case measure => have := hkk.out; omega
  ·go_wp2_with fail
   go_ret
   exact ⟨rfl, hF.below⟩
set_option maxRecDepth 20000 in
set_option maxHeartbeats 1600000 in
theorem msame_any (d : MDoc) (ca cb : List Value) (w : World) (hB : MB d) (h1 : RdDoc w d ca) (h2 : RdDoc w d cb) :
  Calls Tryz.prog 14 #[.agg ca.toArray, .agg cb.toArray] w fun e w' => e = .returned (.bool true) ∧ Below w.heap.size w w' := by
 have hF0 := Fr.nil w
 obtain ⟨hB1, hB2, hB3, hB4, hB5⟩ := hB
 obtain ⟨cf1, eg1, sj1, nt1, hC1, hE1, hS1, hN1, rfl⟩ := h1
 obtain ⟨cf2, eg2, sj2, nt2, hC2, hE2, hS2, hN2, rfl⟩ := h2
 have hcl1 := box hC1.len
 have hsl1 := box hS1.len
 have hcl2 := box hC2.len
 have hsl2 := box hS2.len
 have sC := box (fun (w' : World) (hb : Below w.heap.size w w') => sameDesc_any d.config cf1 cf2 w' hB1 (hC1.on hb) (hC2.on hb))
 have sE := box (fun (w' : World) (hb : Below w.heap.size w w') => sameDescs_any d.edges eg1 eg2 w' hB2 hB3 (hE1.on hb) (hE2.on hb))
 have sS := box (fun (w' : World) (hb : Below w.heap.size w w') => sameDesc_any d.subject sj1 sj2 w' hB4 (hS1.on hb) (hS2.on hb))
 have sN := box (fun (w' : World) (hb : Below w.heap.size w w') => sameNotes_any d.notes nt1 nt2 w' hB5 (hN1.on hb) (hN2.on hb))
 obtain ⟨Ae1, ne1, ce1, _, _, hq1, rfl, _, _⟩ := hE1
 obtain ⟨Ae2, ne2, ce2, _, _, hq2, rfl, _, _⟩ := hE2
 obtain ⟨An1, nn1, cn1, _, hq3, rfl, _⟩ := hN1
 obtain ⟨An2, nn2, cn2, _, hq4, rfl, _⟩ := hN2
 clear hq1 hq2 hq3 hq4
 clear hC1 hC2 hS1 hS2 hB1 hB2 hB3 hB4 hB5
 go_enter Tryz.func14, Tryz.ntmps14
 go_wp2_with (first | ((with_reducible refine lsx (wp_fbox hF0 (cs := (docL d.media d.type cf1 (.slice Ae1 ne1 ce1) sj1 d.has (.slice An1 nn1 cn1))) rfl (by with_unfolding_all rfl) (by with_unfolding_all rfl) ?_)); intro w1 g1 hF1 hz1) | ((with_reducible refine lsx (wp_fbox hF1 (cs := (docL d.media d.type cf2 (.slice Ae2 ne2 ce2) sj2 d.has (.slice An2 nn2 cn2))) rfl (by with_unfolding_all rfl) (by with_unfolding_all rfl) ?_)); intro w2 g2 hF2 hz2) | (with_reducible refine lsx (wp_fld1 hF2 Tryz.underlying9 rfl (by with_unfolding_all exact ⟨_, rfl, rfl⟩) docL_m0 ?_)) | (with_reducible refine lsx (wp_fld1 hF2 Tryz.underlying9 rfl (by with_unfolding_all exact ⟨_, rfl, rfl⟩) docL_t0 ?_)) | (with_reducible refine lsx (wp_fldA1 hF2 Tryz.underlying37 rfl (by with_unfolding_all exact ⟨_, rfl, rfl⟩) (ds := cf1) (by rw [hcl1.out]; kernel_rfl) (by rw [hcl1.out]; exact docL_cf hcl1.out) ?_)) | (with_reducible refine lsx (wp_fld1 hF2 Tryz.underlying38 rfl (by with_unfolding_all exact ⟨_, rfl, rfl⟩) (docL_eg hcl1.out) ?_)) | (with_reducible refine lsx (wp_fldA1 hF2 Tryz.underlying37 rfl (by with_unfolding_all exact ⟨_, rfl, rfl⟩) (ds := sj1) (by rw [hsl1.out]; kernel_rfl) (by rw [hsl1.out]; exact docL_sj hcl1.out hsl1.out) ?_)) | (with_reducible refine lsx (wp_fld1 hF2 Tryz.underlying4 rfl (by with_unfolding_all exact ⟨_, rfl, rfl⟩) (docL_has hcl1.out hsl1.out) ?_)) | (with_reducible refine lsx (wp_fld1 hF2 Tryz.underlying35 rfl (by with_unfolding_all exact ⟨_, rfl, rfl⟩) (docL_nt hcl1.out hsl1.out) ?_)) | (with_reducible refine lsx (wp_fld0 hF2 Tryz.underlying9 rfl (by with_unfolding_all exact ⟨_, rfl, rfl⟩) docL_m0 ?_)) | (with_reducible refine lsx (wp_fld0 hF2 Tryz.underlying9 rfl (by with_unfolding_all exact ⟨_, rfl, rfl⟩) docL_t0 ?_)) | (with_reducible refine lsx (wp_fldA0 hF2 Tryz.underlying37 rfl (by with_unfolding_all exact ⟨_, rfl, rfl⟩) (ds := cf2) (by rw [hcl2.out]; kernel_rfl) (by rw [hcl2.out]; exact docL_cf hcl2.out) ?_)) | (with_reducible refine lsx (wp_fld0 hF2 Tryz.underlying38 rfl (by with_unfolding_all exact ⟨_, rfl, rfl⟩) (docL_eg hcl2.out) ?_)) | (with_reducible refine lsx (wp_fldA0 hF2 Tryz.underlying37 rfl (by with_unfolding_all exact ⟨_, rfl, rfl⟩) (ds := sj2) (by rw [hsl2.out]; kernel_rfl) (by rw [hsl2.out]; exact docL_sj hcl2.out hsl2.out) ?_)) | (with_reducible refine lsx (wp_fld0 hF2 Tryz.underlying4 rfl (by with_unfolding_all exact ⟨_, rfl, rfl⟩) (docL_has hcl2.out hsl2.out) ?_)) | (with_reducible refine lsx (wp_fld0 hF2 Tryz.underlying35 rfl (by with_unfolding_all exact ⟨_, rfl, rfl⟩) (docL_nt hcl2.out hsl2.out) ?_)))
 refine (sC.out _ hF2.below).mono ?_
 rintro e w3 ⟨rfl, hb3⟩
 have hF3 := hF2.call hb3
 go_wp2_with (first | (with_reducible refine lsx (wp_fld1 hF3 Tryz.underlying9 rfl (by with_unfolding_all exact ⟨_, rfl, rfl⟩) docL_m0 ?_)) | (with_reducible refine lsx (wp_fld1 hF3 Tryz.underlying9 rfl (by with_unfolding_all exact ⟨_, rfl, rfl⟩) docL_t0 ?_)) | (with_reducible refine lsx (wp_fldA1 hF3 Tryz.underlying37 rfl (by with_unfolding_all exact ⟨_, rfl, rfl⟩) (ds := cf1) (by rw [hcl1.out]; kernel_rfl) (by rw [hcl1.out]; exact docL_cf hcl1.out) ?_)) | (with_reducible refine lsx (wp_fld1 hF3 Tryz.underlying38 rfl (by with_unfolding_all exact ⟨_, rfl, rfl⟩) (docL_eg hcl1.out) ?_)) | (with_reducible refine lsx (wp_fldA1 hF3 Tryz.underlying37 rfl (by with_unfolding_all exact ⟨_, rfl, rfl⟩) (ds := sj1) (by rw [hsl1.out]; kernel_rfl) (by rw [hsl1.out]; exact docL_sj hcl1.out hsl1.out) ?_)) | (with_reducible refine lsx (wp_fld1 hF3 Tryz.underlying4 rfl (by with_unfolding_all exact ⟨_, rfl, rfl⟩) (docL_has hcl1.out hsl1.out) ?_)) | (with_reducible refine lsx (wp_fld1 hF3 Tryz.underlying35 rfl (by with_unfolding_all exact ⟨_, rfl, rfl⟩) (docL_nt hcl1.out hsl1.out) ?_)) | (with_reducible refine lsx (wp_fld0 hF3 Tryz.underlying9 rfl (by with_unfolding_all exact ⟨_, rfl, rfl⟩) docL_m0 ?_)) | (with_reducible refine lsx (wp_fld0 hF3 Tryz.underlying9 rfl (by with_unfolding_all exact ⟨_, rfl, rfl⟩) docL_t0 ?_)) | (with_reducible refine lsx (wp_fldA0 hF3 Tryz.underlying37 rfl (by with_unfolding_all exact ⟨_, rfl, rfl⟩) (ds := cf2) (by rw [hcl2.out]; kernel_rfl) (by rw [hcl2.out]; exact docL_cf hcl2.out) ?_)) | (with_reducible refine lsx (wp_fld0 hF3 Tryz.underlying38 rfl (by with_unfolding_all exact ⟨_, rfl, rfl⟩) (docL_eg hcl2.out) ?_)) | (with_reducible refine lsx (wp_fldA0 hF3 Tryz.underlying37 rfl (by with_unfolding_all exact ⟨_, rfl, rfl⟩) (ds := sj2) (by rw [hsl2.out]; kernel_rfl) (by rw [hsl2.out]; exact docL_sj hcl2.out hsl2.out) ?_)) | (with_reducible refine lsx (wp_fld0 hF3 Tryz.underlying4 rfl (by with_unfolding_all exact ⟨_, rfl, rfl⟩) (docL_has hcl2.out hsl2.out) ?_)) | (with_reducible refine lsx (wp_fld0 hF3 Tryz.underlying35 rfl (by with_unfolding_all exact ⟨_, rfl, rfl⟩) (docL_nt hcl2.out hsl2.out) ?_)))
 refine (sE.out _ hF3.below).mono ?_
 rintro e w4 ⟨rfl, hb4⟩
 have hF4 := hF3.call hb4
 go_wp2_with (first | (with_reducible refine lsx (wp_fld1 hF4 Tryz.underlying9 rfl (by with_unfolding_all exact ⟨_, rfl, rfl⟩) docL_m0 ?_)) | (with_reducible refine lsx (wp_fld1 hF4 Tryz.underlying9 rfl (by with_unfolding_all exact ⟨_, rfl, rfl⟩) docL_t0 ?_)) | (with_reducible refine lsx (wp_fldA1 hF4 Tryz.underlying37 rfl (by with_unfolding_all exact ⟨_, rfl, rfl⟩) (ds := cf1) (by rw [hcl1.out]; kernel_rfl) (by rw [hcl1.out]; exact docL_cf hcl1.out) ?_)) | (with_reducible refine lsx (wp_fld1 hF4 Tryz.underlying38 rfl (by with_unfolding_all exact ⟨_, rfl, rfl⟩) (docL_eg hcl1.out) ?_)) | (with_reducible refine lsx (wp_fldA1 hF4 Tryz.underlying37 rfl (by with_unfolding_all exact ⟨_, rfl, rfl⟩) (ds := sj1) (by rw [hsl1.out]; kernel_rfl) (by rw [hsl1.out]; exact docL_sj hcl1.out hsl1.out) ?_)) | (with_reducible refine lsx (wp_fld1 hF4 Tryz.underlying4 rfl (by with_unfolding_all exact ⟨_, rfl, rfl⟩) (docL_has hcl1.out hsl1.out) ?_)) | (with_reducible refine lsx (wp_fld1 hF4 Tryz.underlying35 rfl (by with_unfolding_all exact ⟨_, rfl, rfl⟩) (docL_nt hcl1.out hsl1.out) ?_)) | (with_reducible refine lsx (wp_fld0 hF4 Tryz.underlying9 rfl (by with_unfolding_all exact ⟨_, rfl, rfl⟩) docL_m0 ?_)) | (with_reducible refine lsx (wp_fld0 hF4 Tryz.underlying9 rfl (by with_unfolding_all exact ⟨_, rfl, rfl⟩) docL_t0 ?_)) | (with_reducible refine lsx (wp_fldA0 hF4 Tryz.underlying37 rfl (by with_unfolding_all exact ⟨_, rfl, rfl⟩) (ds := cf2) (by rw [hcl2.out]; kernel_rfl) (by rw [hcl2.out]; exact docL_cf hcl2.out) ?_)) | (with_reducible refine lsx (wp_fld0 hF4 Tryz.underlying38 rfl (by with_unfolding_all exact ⟨_, rfl, rfl⟩) (docL_eg hcl2.out) ?_)) | (with_reducible refine lsx (wp_fldA0 hF4 Tryz.underlying37 rfl (by with_unfolding_all exact ⟨_, rfl, rfl⟩) (ds := sj2) (by rw [hsl2.out]; kernel_rfl) (by rw [hsl2.out]; exact docL_sj hcl2.out hsl2.out) ?_)) | (with_reducible refine lsx (wp_fld0 hF4 Tryz.underlying4 rfl (by with_unfolding_all exact ⟨_, rfl, rfl⟩) (docL_has hcl2.out hsl2.out) ?_)) | (with_reducible refine lsx (wp_fld0 hF4 Tryz.underlying35 rfl (by with_unfolding_all exact ⟨_, rfl, rfl⟩) (docL_nt hcl2.out hsl2.out) ?_)))
 refine (sS.out _ hF4.below).mono ?_
 rintro e w5 ⟨rfl, hb5⟩
 have hF5 := hF4.call hb5
 go_wp2_with (first | (with_reducible refine lsx (wp_fld1 hF5 Tryz.underlying9 rfl (by with_unfolding_all exact ⟨_, rfl, rfl⟩) docL_m0 ?_)) | (with_reducible refine lsx (wp_fld1 hF5 Tryz.underlying9 rfl (by with_unfolding_all exact ⟨_, rfl, rfl⟩) docL_t0 ?_)) | (with_reducible refine lsx (wp_fldA1 hF5 Tryz.underlying37 rfl (by with_unfolding_all exact ⟨_, rfl, rfl⟩) (ds := cf1) (by rw [hcl1.out]; kernel_rfl) (by rw [hcl1.out]; exact docL_cf hcl1.out) ?_)) | (with_reducible refine lsx (wp_fld1 hF5 Tryz.underlying38 rfl (by with_unfolding_all exact ⟨_, rfl, rfl⟩) (docL_eg hcl1.out) ?_)) | (with_reducible refine lsx (wp_fldA1 hF5 Tryz.underlying37 rfl (by with_unfolding_all exact ⟨_, rfl, rfl⟩) (ds := sj1) (by rw [hsl1.out]; kernel_rfl) (by rw [hsl1.out]; exact docL_sj hcl1.out hsl1.out) ?_)) | (with_reducible refine lsx (wp_fld1 hF5 Tryz.underlying4 rfl (by with_unfolding_all exact ⟨_, rfl, rfl⟩) (docL_has hcl1.out hsl1.out) ?_)) | (with_reducible refine lsx (wp_fld1 hF5 Tryz.underlying35 rfl (by with_unfolding_all exact ⟨_, rfl, rfl⟩) (docL_nt hcl1.out hsl1.out) ?_)) | (with_reducible refine lsx (wp_fld0 hF5 Tryz.underlying9 rfl (by with_unfolding_all exact ⟨_, rfl, rfl⟩) docL_m0 ?_)) | (with_reducible refine lsx (wp_fld0 hF5 Tryz.underlying9 rfl (by with_unfolding_all exact ⟨_, rfl, rfl⟩) docL_t0 ?_)) | (with_reducible refine lsx (wp_fldA0 hF5 Tryz.underlying37 rfl (by with_unfolding_all exact ⟨_, rfl, rfl⟩) (ds := cf2) (by rw [hcl2.out]; kernel_rfl) (by rw [hcl2.out]; exact docL_cf hcl2.out) ?_)) | (with_reducible refine lsx (wp_fld0 hF5 Tryz.underlying38 rfl (by with_unfolding_all exact ⟨_, rfl, rfl⟩) (docL_eg hcl2.out) ?_)) | (with_reducible refine lsx (wp_fldA0 hF5 Tryz.underlying37 rfl (by with_unfolding_all exact ⟨_, rfl, rfl⟩) (ds := sj2) (by rw [hsl2.out]; kernel_rfl) (by rw [hsl2.out]; exact docL_sj hcl2.out hsl2.out) ?_)) | (with_reducible refine lsx (wp_fld0 hF5 Tryz.underlying4 rfl (by with_unfolding_all exact ⟨_, rfl, rfl⟩) (docL_has hcl2.out hsl2.out) ?_)) | (with_reducible refine lsx (wp_fld0 hF5 Tryz.underlying35 rfl (by with_unfolding_all exact ⟨_, rfl, rfl⟩) (docL_nt hcl2.out hsl2.out) ?_)))
 refine (sN.out _ hF5.below).mono ?_
 rintro e w6 ⟨rfl, hb6⟩
 have hF6 := hF5.call hb6
 go_wp2_with fail
 go_ret
 exact ⟨by simp, hF6.below⟩
end Go.Proofs.YtlhicfpmlncomaaGreatDoor

namespace Go.Proofs.YtlhicfpmlncomaaGreatDoor
open Go.RowKit
set_option linter.unusedSimpArgs false
set_option linter.unusedVariables false
theorem ntsL_take (l : List MNote) : ∀ i : Nat, (ntsL l).take (i * 2) = ntsL (l.take i) := by
 induction l with
 | nil => intro i; simp [ntsL]
 | cons x l ih =>
  intro i
  cases i with
  | zero => simp [ntsL]
  | succ i =>
   have h := ih i
   unfold ntsL at h ⊢
   rw [List.take_succ_cons, List.flatMap_cons, List.flatMap_cons, show (i + 1) * 2 = (ntL x).length + i * 2 by rw [ntL_len]; omega, List.take_length_add_append, h]
theorem nt_k0 {x : MNote} : (ntL x)[0]? = some (.string ⟨x.key.toArray⟩) := rfl
theorem nt_v1 {x : MNote} : (ntL x)[1]? = some (.string ⟨x.val.toArray⟩) := rfl
abbrev nt00 : List Value := [.string ⟨#[]⟩, .string ⟨#[]⟩]
set_option maxRecDepth 20000 in
set_option maxHeartbeats 12800000 in
theorem prightN_any (l : List MNote) (A : Option Addr) (n c : Nat) (w : World) (hL : MLibs w.heap.size w) (hnc : n ≤ c) (hr : Rd w (· < w.heap.size) A 2 n (ntsL l)) (hn' : n = l.length) (hs : NtSm l) :
  Calls Tryz.prog 80 #[.slice A n c] w fun e w' => e = .returned (.bool (decide (mRightN l))) ∧ Below w.heap.size w w' := by
 have hF0 := Fr.nil w
 have hvl := box (fun (s : List UInt8) (w' : World) (hb : Below w.heap.size w w') (h : s.length ≤ 100000000) => valid_ok (hL.on hb).j s (by omega))
 by_cases h32 : n ≤ 32
 rotate_left
 ·have hbad : Box (¬ mRightN l) := box (fun h => h32 (by rw [hn']; exact h.1))
  have d2 : decide ((32 : Int) < (n : Int)) = true := decide_eq_true (by omega)
  replace h32 := box h32
  clear hn' hs
  go_enter Tryz.func80, Tryz.ntmps80
  go_wp2_with fail
  go_ret
  exact ⟨by rw [decide_eq_false hbad.out]; rfl, hF0.below⟩
 have d2 : decide ((32 : Int) < (n : Int)) = false := decide_eq_false (by omega)
 have hn := box hn'
 obtain ⟨hs1, hs2'⟩ := hs
 have hs2 := box hs2'
 clear hn' hs1 hs2'
 go_enter Tryz.func80, Tryz.ntmps80
 go_wp2_with fail
 go_loopg [12] n (fun g a wr => ∃ i : Nat, i ≤ n ∧ Box (g = n - i) ∧ a = .int .i64 (i : Int) ∧ Box (rnGood l i) ∧ Fr [] w wr [])
 case atStart => exact ⟨0, by omega, box rfl, rfl, box (fun j x hj => absurd hj (by omega)), hF0⟩
 case round =>
  clear hF0
  obtain ⟨i, hi, hgi, rfl, hgd, hF⟩ := hrel
  have hkk : Box (_ = n - i) := hgi
  clear hgi
  have hrl := hr.below hF.below
  by_cases hlt : i < n
  ·obtain ⟨x, hx'⟩ : ∃ x, l[i]? = some x := ⟨l[i]'(by rw [← hn.out]; exact hlt), by simp⟩
   have hxa := box (ntsL_at hx')
   have hxs := hs2.out x (List.mem_of_getElem? hx')
   have hx := box hx'
   have hv1 := box (fun w' hb => hvl.out x.key w' hb hxs.1)
   have hv2 := box (fun w' hb => hvl.out x.val w' hb hxs.2)
   clear hx' hxs
   go_wp2_with (first | (with_reducible refine lsx (wp_indexAddr T_notes hrl (by with_unfolding_all exact ⟨_, _, _, _, rfl, rfl, rfl⟩) (by omega) (by omega) ?_)) | (with_reducible refine lsx (wp_loadA hrl Tryz.underlying70 rfl (by with_unfolding_all exact ⟨_, rfl, rfl⟩) (ds := (ntL x)) (by kernel_rfl) (by with_unfolding_all exact hxa.out) ?_)) | ((with_reducible refine lsx (wp_falloc hF (cs := nt00) (z := .agg (List.toArray (nt00))) rfl (by kernel_rfl) (by with_unfolding_all rfl) ?_)); intro w6 g6 hF6 hz6) | ((with_reducible refine lsx (wp_fstA0 hF6 (by with_unfolding_all exact ⟨_, _, rfl, rfl, rfl⟩) (by kernel_rfl) (ntL_one _) (Nat.le_refl 2) (spl_all rfl : spl nt00 0 (ntL x) = ntL x) ?_)); intro w7 hF7 hz7) | (have hrl7 := hr.below hF7.below; (with_reducible refine lsx (wp_cut T_notes hrl7 hnc (lo := none) (hi := some (i : Int)) (mx := none) ?_ (l := 0) (h := i) (m := c) (by simp) (by simp) (by simp) (by simp) (by omega) (by omega) (by omega) (by omega) ?_)); exact ⟨_, _, _, _, .i64, .i64, .i64, rfl, rfl, rfl, rfl, rfl⟩; intro A2 c2 hr2 hc2 hc3))
   have hrw : Rd w (· < w.heap.size) A2 2 i (ntsL (l.take i)) := by
    have h := hr2.same (w0 := w) (fun k hk => (hF7.below.block k hk).symm)
    rw [Nat.zero_mul, List.drop_zero, Nat.sub_zero, ntsL_take] at h
    exact h
   have hb7 := hF7
   clear hF hF6 hrl hr2
   go_loopg [21] i (fun g a wr => ∃ k : Nat, k ≤ i ∧ Box (g = i - k) ∧ a = .int .i64 (k : Int) ∧ Box (∀ k' y, k' < k → l[k']? = some y → y.key ≠ x.key) ∧ Fr [] w wr [.blk g6 70 (ntL x)])
   case atStart => exact ⟨0, by omega, box rfl, rfl, box (fun k' y hk' => absurd hk' (by omega)), hF7⟩
   case round =>
    clear hF7 hb7
    obtain ⟨k, hk, hgk, rfl, hno, hF⟩ := hrel
    have hkj : Box (_ = i - k) := hgk
    clear hgk
    by_cases hki : k < i
    ·obtain ⟨y, hy'⟩ : ∃ y, l[k]? = some y := ⟨l[k]'(by rw [← hn.out]; omega), by simp⟩
     have hya := box (ntsL_at (l := l.take i) (i := k) (x := y) (by rw [List.getElem?_take, if_pos hki]; exact hy'))
     have hy := box hy'
     have hki' := box hki
     have hrk := hrw.below hF.below
     clear hy'
     cases hsu : (y.key == x.key) with
     | true =>
      have hbad := box (rnBad_k hx.out hy.out hki'.out (beq_iff_eq.1 hsu))
      go_wp2_with (first | (with_reducible refine lsx (wp_indexAddr T_notes hrk (by with_unfolding_all exact ⟨_, _, _, _, rfl, rfl, rfl⟩) (by omega) (by omega) ?_)) | (with_reducible refine lsx (wp_loadA hrk Tryz.underlying70 rfl (by with_unfolding_all exact ⟨_, rfl, rfl⟩) (ds := (ntL y)) (by kernel_rfl) (by with_unfolding_all exact hya.out) ?_)) | ((with_reducible refine lsx (wp_falloc hF (cs := nt00) (z := .agg (List.toArray (nt00))) rfl (by kernel_rfl) (by with_unfolding_all rfl) ?_)); intro w8 g8 hF8 hz8) | ((with_reducible refine lsx (wp_fstA0 hF8 (by with_unfolding_all exact ⟨_, _, rfl, rfl, rfl⟩) (by kernel_rfl) (ntL_one _) (Nat.le_refl 2) (spl_all rfl : spl nt00 0 (ntL y) = ntL y) ?_)); intro w9 hF9 hz9) | (with_reducible refine lsx (wp_fld0 hF9 Tryz.underlying9 rfl (by with_unfolding_all exact ⟨_, rfl, rfl⟩) nt_k0 ?_)) | (with_reducible refine lsx (wp_fld1 hF9 Tryz.underlying9 rfl (by with_unfolding_all exact ⟨_, rfl, rfl⟩) nt_k0 ?_)))
      go_ret
      exact ⟨by rw [decide_eq_false hbad.out]; rfl, hF9.below⟩
     | false =>
      have hno2 : Box (∀ k' z, k' < k + 1 → l[k']? = some z → z.key ≠ x.key) := box (fun k' z hk' hz => by
       by_cases h : k' < k
       ·exact hno.out k' z h hz
       ·obtain rfl : k' = k := by omega
        rw [hy.out] at hz
        injection hz with hz
        subst hz
        exact beq_eq_false_iff_ne.1 hsu)
      go_wp2_with (first | (with_reducible refine lsx (wp_indexAddr T_notes hrk (by with_unfolding_all exact ⟨_, _, _, _, rfl, rfl, rfl⟩) (by omega) (by omega) ?_)) | (with_reducible refine lsx (wp_loadA hrk Tryz.underlying70 rfl (by with_unfolding_all exact ⟨_, rfl, rfl⟩) (ds := (ntL y)) (by kernel_rfl) (by with_unfolding_all exact hya.out) ?_)) | ((with_reducible refine lsx (wp_falloc hF (cs := nt00) (z := .agg (List.toArray (nt00))) rfl (by kernel_rfl) (by with_unfolding_all rfl) ?_)); intro w8 g8 hF8 hz8) | ((with_reducible refine lsx (wp_fstA0 hF8 (by with_unfolding_all exact ⟨_, _, rfl, rfl, rfl⟩) (by kernel_rfl) (ntL_one _) (Nat.le_refl 2) (spl_all rfl : spl nt00 0 (ntL y) = ntL y) ?_)); intro w9 hF9 hz9) | (with_reducible refine lsx (wp_fld0 hF9 Tryz.underlying9 rfl (by with_unfolding_all exact ⟨_, rfl, rfl⟩) nt_k0 ?_)) | (with_reducible refine lsx (wp_fld1 hF9 Tryz.underlying9 rfl (by with_unfolding_all exact ⟨_, rfl, rfl⟩) nt_k0 ?_)))
      go_roundg (i - (k + 1))
      case rel => exact ⟨k + 1, by omega, box rfl, by go_num, hno2, hF9.tail⟩
      case measure => have := hkj.out; omega
    ·obtain rfl : i = k := by omega
     cases hq1 : Lib.validD x.key with
     | false =>
      have hbad := box (rnBad_v hx.out (.inl hq1))
      rw [hq1] at hv1
      replace hq1 := box hq1
      go_wp2_with (first | (with_reducible refine lsx (wp_fld0 hF Tryz.underlying9 rfl (by with_unfolding_all exact ⟨_, rfl, rfl⟩) nt_k0 ?_)))
      refine (hv1.out _ hF.below).mono ?_
      rintro e w2 ⟨rfl, hb2⟩
      have hF2 := hF.call hb2
      go_wp2_with fail
      go_ret
      exact ⟨by rw [decide_eq_false hbad.out]; rfl, hF2.below⟩
     | true =>
      rw [hq1] at hv1
      replace hq1 := box hq1
      cases hq2 : Lib.validD x.val with
      | false =>
       have hbad := box (rnBad_v hx.out (.inr hq2))
       rw [hq2] at hv2
       replace hq2 := box hq2
       go_wp2_with (first | (with_reducible refine lsx (wp_fld0 hF Tryz.underlying9 rfl (by with_unfolding_all exact ⟨_, rfl, rfl⟩) nt_k0 ?_)))
       refine (hv1.out _ hF.below).mono ?_
       rintro e w2 ⟨rfl, hb2⟩
       have hF2 := hF.call hb2
       go_wp2_with (first | (with_reducible refine lsx (wp_fld0 hF2 Tryz.underlying9 rfl (by with_unfolding_all exact ⟨_, rfl, rfl⟩) nt_v1 ?_)))
       refine (hv2.out _ hF2.below).mono ?_
       rintro e w3 ⟨rfl, hb3⟩
       have hF3 := hF2.call hb3
       go_wp2_with fail
       go_ret
       exact ⟨by rw [decide_eq_false hbad.out]; rfl, hF3.below⟩
      | true =>
       rw [hq2] at hv2
       replace hq2 := box hq2
       have hgd2 : Box (rnGood l (i + 1)) := box (fun j z hj hz => by
        by_cases h : j < i
        ·exact hgd.out j z h hz
        ·obtain rfl : j = i := by omega
         rw [hx.out] at hz
         injection hz with hz
         subst hz
         exact ⟨hq1.out, hq2.out, hno.out⟩)
       go_wp2_with (first | (with_reducible refine lsx (wp_fld0 hF Tryz.underlying9 rfl (by with_unfolding_all exact ⟨_, rfl, rfl⟩) nt_k0 ?_)))
       refine (hv1.out _ hF.below).mono ?_
       rintro e w2 ⟨rfl, hb2⟩
       have hF2 := hF.call hb2
       go_wp2_with (first | (with_reducible refine lsx (wp_fld0 hF2 Tryz.underlying9 rfl (by with_unfolding_all exact ⟨_, rfl, rfl⟩) nt_v1 ?_)))
       refine (hv2.out _ hF2.below).mono ?_
       rintro e w3 ⟨rfl, hb3⟩
       have hF3 := hF2.call hb3
       go_wp2_with fail
       go_roundg (n - (i + 1))
       case rel => exact ⟨i + 1, by omega, box rfl, by go_num, hgd2, hF3.tail⟩
       case measure => have := hkk.out; omega
  ·obtain rfl : n = i := by omega
   have hok := box (rnGood_all (by rw [← hn.out]; exact h32) (by rw [← hn.out]; exact hgd.out))
   go_wp2_with fail
   go_ret
   exact ⟨by rw [decide_eq_true hok.out]; rfl, hF.below⟩
set_option maxRecDepth 20000 in
set_option maxHeartbeats 6400000 in
theorem prightD_any (d : MDesc) (cs : List Value) (w : World) (hL : MLibs w.heap.size w) (hD : RdD w d cs) (hs : DsSm d) :
  Calls Tryz.prog 81 #[.agg cs.toArray] w fun e w' => e = .returned (.bool (decide (mRightD d))) ∧ Below w.heap.size w w' := by
 obtain ⟨nt, hd', ⟨A, n, c, hnc, hn', rfl, hr'⟩, rfl⟩ := hD
 obtain ⟨m, dg, z, l⟩ := d
 obtain ⟨hs1, hs2⟩ := hs
 simp only [] at hd' hn' hr' hs1 hs2
 have hd := box hd'
 have hrn := box (fun w' (hb : Below w.heap.size w w') => prightN_any l A n c w' ((hL.on hb).up hb.size) hnc (hr'.on hb) hn' hs2)
 have hmed := box (fun w' (hb : Below w.heap.size w w') => media_any ⟨m.toArray⟩ w' ((hL.on hb).m.now) (by rw [← str_len]; exact Nat.lt_of_le_of_lt hs1 (by decide)))
 have hR : Box (decide (mRightD ⟨m, dg, z, l⟩) = (mediaB m && (decide (0 ≤ z) && (decide (z ≤ 1099511627776) && decide (mRightN l))))) := box (by
  by_cases h : mediaB m = true ∧ 0 ≤ z ∧ z ≤ 1099511627776 ∧ mRightN l
  ·rw [decide_eq_true (show mRightD ⟨m, dg, z, l⟩ from h), h.1, decide_eq_true h.2.1, decide_eq_true h.2.2.1, decide_eq_true h.2.2.2]; rfl
  ·rw [decide_eq_false (show ¬ mRightD ⟨m, dg, z, l⟩ from h)]
   cases hb : (mediaB m && (decide (0 ≤ z) && (decide (z ≤ 1099511627776) && decide (mRightN l)))) with
   | false => rfl
   | true =>
    simp only [Bool.and_eq_true, decide_eq_true_eq] at hb
    exact absurd hb h)
 clear hd' hr' hn' hs1 hs2
 have hF0 := Fr.nil w
 show Calls _ _ #[.agg (dsL m dg z (.slice A n c)).toArray] _ _
 rw [show (⟨m.toArray⟩ : ByteArray).data.toList = m from rfl] at hmed
 cases h1 : mediaB m with
 | false =>
  have hres := box (hR.out.trans (by rw [h1]; rfl : _ = false))
  rw [h1] at hmed
  clear h1 hR
  go_enter Tryz.func81, Tryz.ntmps81
  go_wp2_with (first | ((with_reducible refine lsx (wp_fbox hF0 (cs := (dsL m dg z (.slice A n c))) rfl (by with_unfolding_all rfl) (by with_unfolding_all rfl) ?_)); intro w1 g1 hF1 hz1) | (with_reducible refine lsx (wp_fld0 hF1 Tryz.underlying9 rfl (by with_unfolding_all exact ⟨_, rfl, rfl⟩) dsL_m0 ?_)))
  refine (hmed.out _ hF1.below).mono ?_
  rintro e w2 ⟨rfl, hb2⟩
  have hF2 := hF1.call hb2
  go_wp2_with (first | (with_reducible refine lsx (wp_fld0 hF2 Tryz.underlying3 rfl (by with_unfolding_all exact ⟨_, rfl, rfl⟩) (dsL_size hd.out) ?_)) | (with_reducible refine lsx (wp_fld0 hF2 Tryz.underlying26 rfl (by with_unfolding_all exact ⟨_, rfl, rfl⟩) (dsL_notes hd.out) ?_)))
  go_ret
  exact ⟨by rw [hres.out]; rfl, hF2.below⟩
 | true =>
  rw [h1] at hmed
  by_cases h2 : 0 ≤ z
  ·have d2 : decide (0 ≤ z) = true := decide_eq_true h2
   by_cases h3 : z ≤ 1099511627776
   ·have d3 : decide (z ≤ 1099511627776) = true := decide_eq_true h3
    have hres := box (hR.out.trans (by rw [h1, d2, d3]; rfl : _ = decide (mRightN l)))
    clear h1 hR
    replace h2 := box h2
    replace h3 := box h3
    go_enter Tryz.func81, Tryz.ntmps81
    go_wp2_with (first | ((with_reducible refine lsx (wp_fbox hF0 (cs := (dsL m dg z (.slice A n c))) rfl (by with_unfolding_all rfl) (by with_unfolding_all rfl) ?_)); intro w1 g1 hF1 hz1) | (with_reducible refine lsx (wp_fld0 hF1 Tryz.underlying9 rfl (by with_unfolding_all exact ⟨_, rfl, rfl⟩) dsL_m0 ?_)))
    refine (hmed.out _ hF1.below).mono ?_
    rintro e w2 ⟨rfl, hb2⟩
    have hF2 := hF1.call hb2
    go_wp2_with (first | (with_reducible refine lsx (wp_fld0 hF2 Tryz.underlying3 rfl (by with_unfolding_all exact ⟨_, rfl, rfl⟩) (dsL_size hd.out) ?_)) | (with_reducible refine lsx (wp_fld0 hF2 Tryz.underlying26 rfl (by with_unfolding_all exact ⟨_, rfl, rfl⟩) (dsL_notes hd.out) ?_)))
    refine (hrn.out _ hF2.below).mono ?_
    rintro e w3 ⟨rfl, hb3⟩
    have hF3 := hF2.call hb3
    go_wp2_with fail
    go_ret
    exact ⟨by rw [hres.out]; rfl, hF3.below⟩
   ·have d3 : decide (z ≤ 1099511627776) = false := decide_eq_false h3
    have hres := box (hR.out.trans (by rw [h1, d2, d3]; rfl : _ = false))
    clear h1 hR
    replace h2 := box h2
    replace h3 := box h3
    go_enter Tryz.func81, Tryz.ntmps81
    go_wp2_with (first | ((with_reducible refine lsx (wp_fbox hF0 (cs := (dsL m dg z (.slice A n c))) rfl (by with_unfolding_all rfl) (by with_unfolding_all rfl) ?_)); intro w1 g1 hF1 hz1) | (with_reducible refine lsx (wp_fld0 hF1 Tryz.underlying9 rfl (by with_unfolding_all exact ⟨_, rfl, rfl⟩) dsL_m0 ?_)))
    refine (hmed.out _ hF1.below).mono ?_
    rintro e w2 ⟨rfl, hb2⟩
    have hF2 := hF1.call hb2
    go_wp2_with (first | (with_reducible refine lsx (wp_fld0 hF2 Tryz.underlying3 rfl (by with_unfolding_all exact ⟨_, rfl, rfl⟩) (dsL_size hd.out) ?_)) | (with_reducible refine lsx (wp_fld0 hF2 Tryz.underlying26 rfl (by with_unfolding_all exact ⟨_, rfl, rfl⟩) (dsL_notes hd.out) ?_)))
    go_ret
    exact ⟨by rw [hres.out]; rfl, hF2.below⟩
  ·have d2 : decide (0 ≤ z) = false := decide_eq_false h2
   have hres := box (hR.out.trans (by rw [h1, d2]; rfl : _ = false))
   clear h1 hR
   replace h2 := box h2
   go_enter Tryz.func81, Tryz.ntmps81
   go_wp2_with (first | ((with_reducible refine lsx (wp_fbox hF0 (cs := (dsL m dg z (.slice A n c))) rfl (by with_unfolding_all rfl) (by with_unfolding_all rfl) ?_)); intro w1 g1 hF1 hz1) | (with_reducible refine lsx (wp_fld0 hF1 Tryz.underlying9 rfl (by with_unfolding_all exact ⟨_, rfl, rfl⟩) dsL_m0 ?_)))
   refine (hmed.out _ hF1.below).mono ?_
   rintro e w2 ⟨rfl, hb2⟩
   have hF2 := hF1.call hb2
   go_wp2_with (first | (with_reducible refine lsx (wp_fld0 hF2 Tryz.underlying3 rfl (by with_unfolding_all exact ⟨_, rfl, rfl⟩) (dsL_size hd.out) ?_)) | (with_reducible refine lsx (wp_fld0 hF2 Tryz.underlying26 rfl (by with_unfolding_all exact ⟨_, rfl, rfl⟩) (dsL_notes hd.out) ?_)))
   go_ret
   exact ⟨by rw [hres.out]; rfl, hF2.below⟩
end Go.Proofs.YtlhicfpmlncomaaGreatDoor

/-
 Layer 8: the document's Same at one document twice.
 Layer 6: the walk of the program's has.
 Layer 6: which values are right, in plain words; the walk of the program's right.
 Layer 6, plain: a member is smaller than the value.
 A text appended to bytes that the call owns, over a frame of known blocks. No program is named here.
 Layer 6: what is written, in plain words; the walk of the program's quoted.
 Layer 6: values as they are written: in plain words; the walk of the program's written.
 Layer 6: the walk of the program's right: lists and objects.
 A slice literal of one reckoned byte. No program is named here.
 Layer 6: the document's Decimal, walked.
 A sign of a text, by its place: the laws of the operation. No program is named here.
 Layer 6: the document's quote, walked.
-/
import Derived.Test.YtlhicfpmlncomaaGreatDoorH15
import Derived.Test.YtlhicfpmlncomaaGreatDoorH02
import Derived.Test.YtlhicfpmlncomaaGreatDoorH07
import Derived.Test.YtlhicfpmlncomaaGreatDoorH01
import Derived.Test.YtlhicfpmlncomaaGreatDoorH04
import Derived.Lib.AppendStr
namespace Go.Proofs.YtlhicfpmlncomaaGreatDoor
open Go.RowKit
set_option linter.unusedSimpArgs false
set_option linter.unusedVariables false
set_option maxRecDepth 20000 in
set_option maxHeartbeats 1600000 in
theorem sameDesc_any (d : MDesc) (ca cb : List Value) (w : World) (hbd : d.notes.length ≤ 1048576) (h1 : RdD w d ca) (h2 : RdD w d cb) :
  Calls Tryz.prog 34 #[.agg ca.toArray, .agg cb.toArray] w fun e w' => e = .returned (.bool true) ∧ Below w.heap.size w w' := by
 have hF0 := Fr.nil w
 obtain ⟨m, dg, z, nts⟩ := d
 obtain ⟨_, hd', hN1, rfl⟩ := h1
 obtain ⟨_, _, hN2, rfl⟩ := h2
 have hsn := box (fun (w' : World) (hb : Below w.heap.size w w') => sameNotes_any nts _ _ w' hbd (hN1.on hb) (hN2.on hb))
 obtain ⟨A1, n1, c1, _, hq1, rfl, _⟩ := hN1
 obtain ⟨A2, n2, c2, _, hq2, rfl, _⟩ := hN2
 clear hq1 hq2
 simp only [] at hd' hsn ⊢
 have hd := box hd'
 have heq : ∀ w, (Op.equalIn 10000 24 (.agg (dg.map bv).toArray) (.agg (dg.map bv).toArray)).run Tryz.prog w = .ok true w := fun w => by
  have h := run_eqBytes (P := Tryz.prog) Tryz.underlying24 Tryz.underlying5 (by kernel_rfl) dg dg hd' hd' 9998 w
  rw [beq_self_eq_true] at h
  exact h
 clear hd' hbd
 go_enter Tryz.func34, Tryz.ntmps34
 go_wp2_with (first | ((with_reducible refine lst (by with_unfolding_all rfl) (wp_fbox hF0 (cs := (dsL m dg z (.slice A1 n1 c1))) rfl (by with_unfolding_all rfl) (by with_unfolding_all rfl) ?_)); intro w1 g1 hF1 hz1) | ((with_reducible refine lst (by with_unfolding_all rfl) (wp_fbox hF1 (cs := (dsL m dg z (.slice A2 n2 c2))) rfl (by with_unfolding_all rfl) (by with_unfolding_all rfl) ?_)); intro w2 g2 hF2 hz2) | (with_reducible refine lst (by with_unfolding_all rfl) (wp_fld1 hF2 Tryz.underlying9 rfl (by with_unfolding_all exact ⟨_, rfl, rfl⟩) dsL_m0 ?_)) | (with_reducible refine lst (by with_unfolding_all rfl) (wp_fldA1 hF2 Tryz.underlying24 rfl (by with_unfolding_all exact ⟨_, rfl, rfl⟩) (ds := (dg.map bv)) (by rw [List.length_map, hd.out]; kernel_rfl) (by rw [List.length_map, hd.out]; exact dsL_dig hd.out) ?_)) | (with_reducible refine lst (by with_unfolding_all rfl) (wp_fld1 hF2 Tryz.underlying3 rfl (by with_unfolding_all exact ⟨_, rfl, rfl⟩) (dsL_size hd.out) ?_)) | (with_reducible refine lst (by with_unfolding_all rfl) (wp_fld1 hF2 Tryz.underlying35 rfl (by with_unfolding_all exact ⟨_, rfl, rfl⟩) (dsL_notes hd.out) ?_)) | (with_reducible refine lst (by with_unfolding_all rfl) (wp_fld0 hF2 Tryz.underlying9 rfl (by with_unfolding_all exact ⟨_, rfl, rfl⟩) dsL_m0 ?_)) | (with_reducible refine lst (by with_unfolding_all rfl) (wp_fldA0 hF2 Tryz.underlying24 rfl (by with_unfolding_all exact ⟨_, rfl, rfl⟩) (ds := (dg.map bv)) (by rw [List.length_map, hd.out]; kernel_rfl) (by rw [List.length_map, hd.out]; exact dsL_dig hd.out) ?_)) | (with_reducible refine lst (by with_unfolding_all rfl) (wp_fld0 hF2 Tryz.underlying3 rfl (by with_unfolding_all exact ⟨_, rfl, rfl⟩) (dsL_size hd.out) ?_)) | (with_reducible refine lst (by with_unfolding_all rfl) (wp_fld0 hF2 Tryz.underlying35 rfl (by with_unfolding_all exact ⟨_, rfl, rfl⟩) (dsL_notes hd.out) ?_)))
 refine (hsn.out _ hF2.below).mono ?_
 rintro e w3 ⟨rfl, hb3⟩
 have hF3 := hF2.call hb3
 go_wp2_with fail
 go_ret
 exact ⟨by simp, hF3.below⟩
set_option maxRecDepth 20000 in
set_option maxHeartbeats 3200000 in
theorem sameDescs_any (l : List MDesc) (u v : Value) (w : World) (hbd : l.length ≤ 1048576) (hbs : ∀ x ∈ l, x.notes.length ≤ 1048576) (h1 : RdE w l u) (h2 : RdE w l v) :
  Calls Tryz.prog 25 #[u, v] w fun e w' => e = .returned (.bool true) ∧ Below w.heap.size w w' := by
 obtain ⟨A1, n, c1, xs, _, hn, rfl, hr1, hx1⟩ := h1
 obtain ⟨A2, n2, c2, ys, _, hn2, rfl, hr2, hx2⟩ := h2
 obtain rfl : n = n2 := by omega
 clear hn2
 replace hn := box hn
 replace hx1 := box hx1
 replace hx2 := box hx2
 replace hbs := box hbs
 replace hbd : n ≤ 1048576 := by rw [hn.out]; exact hbd
 have hF0 := Fr.nil w
 go_enter Tryz.func25, Tryz.ntmps25
 go_wp2_with fail
 go_loopg [5] n (fun g iv wr => ∃ i : Nat, i ≤ n ∧ Box (g = n - i) ∧ iv = .int .i64 (i : Int) ∧ Fr [] w wr [])
 case atStart => exact ⟨0, by omega, box rfl, rfl, hF0⟩
 case round =>
  clear hF0
  obtain ⟨i, hi, hgi, rfl, hF⟩ := hrel
  have hkk : Box (_ = n - i) := hgi
  clear hgi
  by_cases hlt : i < n
  ·obtain ⟨x, hx⟩ : ∃ x, l[i]? = some x := ⟨l[i]'(by rw [← hn.out]; exact hlt), by simp⟩
   obtain ⟨ca, hca'⟩ : ∃ ca, ca = (xs.drop (i * 35)).take 35 := ⟨_, rfl⟩
   obtain ⟨cb, hcb'⟩ : ∃ cb, cb = (ys.drop (i * 35)).take 35 := ⟨_, rfl⟩
   have hda := hx1.out i x hx
   have hdb := hx2.out i x hx
   rw [← hca'] at hda
   rw [← hcb'] at hdb
   have hcal := box hda.len
   have hcbl := box hdb.len
   have hsd := box (fun (w' : World) (hb : Below w.heap.size w w') => sameDesc_any x ca cb w' (hbs.out x (List.mem_of_getElem? hx)) (hda.on hb) (hdb.on hb))
   have hca := box hca'.symm
   have hcb := box hcb'.symm
   clear hx hca' hcb' hda hdb
   go_upto_region 6 with fail
   have hFd := hF.drew
   refine wp_region_held (S := fun w' => Rd w' (· < w.heap.size) A1 35 n xs ∧ Rd w' (· < w.heap.size) A2 35 n ys) (by kernel_rfl) ?_
   change wpAnyH _ _ _ _ _ _ _ _ (World.drew _)
   refine tkp 0 ⟨hr1.below hFd.below, hr2.below hFd.below⟩ ?_
   (try simp only [Act.put, List.setIfInBounds_toArray, List.set_cons_zero, List.set_cons_succ])
   refine tkp 1 ⟨hr1.below hFd.below, hr2.below hFd.below⟩ ?_
   (try simp only [Act.put, List.setIfInBounds_toArray, List.set_cons_zero, List.set_cons_succ])
   refine tky 2 (y := yi_ix (by with_unfolding_all rfl) T_rdescs (fun h => hr1.some_ h) (k := i) (by with_unfolding_all exact ⟨_, _, _, _, rfl, rfl, rfl⟩) rfl (by omega)) (s := ⟨hr1.below hFd.below, hr2.below hFd.below⟩) (h := ?_)
   (try simp only [Act.put, List.setIfInBounds_toArray, List.set_cons_zero, List.set_cons_succ])
   refine tky 3 (y := yi_ldA (by with_unfolding_all rfl) (fun _ h => h.1) Tryz.underlying37 rfl (by with_unfolding_all exact ⟨_, rfl, rfl⟩) (ds := ca) (by rw [hcal.out]; kernel_rfl) (by rw [hcal.out]; exact hca.out)) (s := ⟨hr1.below hFd.below, hr2.below hFd.below⟩) (h := ?_)
   (try simp only [Act.put, List.setIfInBounds_toArray, List.set_cons_zero, List.set_cons_succ])
   refine tkp 4 ⟨hr1.below hFd.below, hr2.below hFd.below⟩ ?_
   (try simp only [Act.put, List.setIfInBounds_toArray, List.set_cons_zero, List.set_cons_succ])
   refine tkp 5 ⟨hr1.below hFd.below, hr2.below hFd.below⟩ ?_
   (try simp only [Act.put, List.setIfInBounds_toArray, List.set_cons_zero, List.set_cons_succ])
   refine tky 6 (y := yi_ix (by with_unfolding_all rfl) T_rdescs (fun h => hr2.some_ h) (k := i) (by with_unfolding_all exact ⟨_, _, _, _, rfl, rfl, rfl⟩) rfl (by omega)) (s := ⟨hr1.below hFd.below, hr2.below hFd.below⟩) (h := ?_)
   (try simp only [Act.put, List.setIfInBounds_toArray, List.set_cons_zero, List.set_cons_succ])
   refine tky 7 (y := yi_ldA (by with_unfolding_all rfl) (fun _ h => h.2) Tryz.underlying37 rfl (by with_unfolding_all exact ⟨_, rfl, rfl⟩) (ds := cb) (by rw [hcbl.out]; kernel_rfl) (by rw [hcbl.out]; exact hcb.out)) (s := ⟨hr1.below hFd.below, hr2.below hFd.below⟩) (h := ?_)
   (try simp only [Act.put, List.setIfInBounds_toArray, List.set_cons_zero, List.set_cons_succ])
   refine rdy1 8 (fun K hK => ?_)
   refine stp (by with_unfolding_all rfl) (wp_call Tryz.func34 rfl (by with_unfolding_all rfl) (by with_unfolding_all rfl) (by with_unfolding_all rfl) (hsd.out _ hFd.below) ?_)
   rintro e w41 ⟨rfl, hb41⟩
   refine ⟨_, rfl, ?_⟩
   have hF41 := hFd.call hb41
   refine hK.out _ _ (⟨hr1.below hF41.below, hr2.below hF41.below⟩) (fun _ => ?_)
   clear hK K
   (try simp only [Act.put, List.setIfInBounds_toArray, List.set_cons_zero, List.set_cons_succ])
   refine tkp 9 ⟨hr1.below hF41.below, hr2.below hF41.below⟩ ?_
   (try simp only [Act.put, List.setIfInBounds_toArray, List.set_cons_zero, List.set_cons_succ])
   refine wpAnyH_done (by kernel_rfl) ?_ _
   go_wp2_with fail
   go_roundg (n - (i + 1))
   case rel => exact ⟨i + 1, by omega, box rfl, by go_num, hF41⟩
   case measure => have := hkk.out; omega
  ·go_wp2_with fail
   go_ret
   exact ⟨rfl, hF.below⟩
set_option maxRecDepth 20000 in
set_option maxHeartbeats 1600000 in
theorem msame_any (d : MDoc) (ca cb : List Value) (w : World) (hB : MB d) (h1 : RdDoc w d ca) (h2 : RdDoc w d cb) :
  Calls Tryz.prog 14 #[.agg ca.toArray, .agg cb.toArray] w fun e w' => e = .returned (.bool true) ∧ Below w.heap.size w w' := by
 have hF0 := Fr.nil w
 obtain ⟨hB1, hB2, hB3, hB4, hB5⟩ := hB
 obtain ⟨cf1, eg1, sj1, nt1, hC1, hE1, hS1, hN1, rfl⟩ := h1
 obtain ⟨cf2, eg2, sj2, nt2, hC2, hE2, hS2, hN2, rfl⟩ := h2
 have hcl1 := box hC1.len
 have hsl1 := box hS1.len
 have hcl2 := box hC2.len
 have hsl2 := box hS2.len
 have sC := box (fun (w' : World) (hb : Below w.heap.size w w') => sameDesc_any d.config cf1 cf2 w' hB1 (hC1.on hb) (hC2.on hb))
 have sE := box (fun (w' : World) (hb : Below w.heap.size w w') => sameDescs_any d.edges eg1 eg2 w' hB2 hB3 (hE1.on hb) (hE2.on hb))
 have sS := box (fun (w' : World) (hb : Below w.heap.size w w') => sameDesc_any d.subject sj1 sj2 w' hB4 (hS1.on hb) (hS2.on hb))
 have sN := box (fun (w' : World) (hb : Below w.heap.size w w') => sameNotes_any d.notes nt1 nt2 w' hB5 (hN1.on hb) (hN2.on hb))
 obtain ⟨Ae1, ne1, ce1, _, _, hq1, rfl, _, _⟩ := hE1
 obtain ⟨Ae2, ne2, ce2, _, _, hq2, rfl, _, _⟩ := hE2
 obtain ⟨An1, nn1, cn1, _, hq3, rfl, _⟩ := hN1
 obtain ⟨An2, nn2, cn2, _, hq4, rfl, _⟩ := hN2
 clear hq1 hq2 hq3 hq4
 clear hC1 hC2 hS1 hS2 hB1 hB2 hB3 hB4 hB5
 go_enter Tryz.func14, Tryz.ntmps14
 go_wp2_with (first | ((with_reducible refine lst (by with_unfolding_all rfl) (wp_fbox hF0 (cs := (docL d.media d.type cf1 (.slice Ae1 ne1 ce1) sj1 d.has (.slice An1 nn1 cn1))) rfl (by with_unfolding_all rfl) (by with_unfolding_all rfl) ?_)); intro w1 g1 hF1 hz1) | ((with_reducible refine lst (by with_unfolding_all rfl) (wp_fbox hF1 (cs := (docL d.media d.type cf2 (.slice Ae2 ne2 ce2) sj2 d.has (.slice An2 nn2 cn2))) rfl (by with_unfolding_all rfl) (by with_unfolding_all rfl) ?_)); intro w2 g2 hF2 hz2) | (with_reducible refine lst (by with_unfolding_all rfl) (wp_fld1 hF2 Tryz.underlying9 rfl (by with_unfolding_all exact ⟨_, rfl, rfl⟩) docL_m0 ?_)) | (with_reducible refine lst (by with_unfolding_all rfl) (wp_fld1 hF2 Tryz.underlying9 rfl (by with_unfolding_all exact ⟨_, rfl, rfl⟩) docL_t0 ?_)) | (with_reducible refine lst (by with_unfolding_all rfl) (wp_fldA1 hF2 Tryz.underlying37 rfl (by with_unfolding_all exact ⟨_, rfl, rfl⟩) (ds := cf1) (by rw [hcl1.out]; kernel_rfl) (by rw [hcl1.out]; exact docL_cf hcl1.out) ?_)) | (with_reducible refine lst (by with_unfolding_all rfl) (wp_fld1 hF2 Tryz.underlying38 rfl (by with_unfolding_all exact ⟨_, rfl, rfl⟩) (docL_eg hcl1.out) ?_)) | (with_reducible refine lst (by with_unfolding_all rfl) (wp_fldA1 hF2 Tryz.underlying37 rfl (by with_unfolding_all exact ⟨_, rfl, rfl⟩) (ds := sj1) (by rw [hsl1.out]; kernel_rfl) (by rw [hsl1.out]; exact docL_sj hcl1.out hsl1.out) ?_)) | (with_reducible refine lst (by with_unfolding_all rfl) (wp_fld1 hF2 Tryz.underlying4 rfl (by with_unfolding_all exact ⟨_, rfl, rfl⟩) (docL_has hcl1.out hsl1.out) ?_)) | (with_reducible refine lst (by with_unfolding_all rfl) (wp_fld1 hF2 Tryz.underlying35 rfl (by with_unfolding_all exact ⟨_, rfl, rfl⟩) (docL_nt hcl1.out hsl1.out) ?_)) | (with_reducible refine lst (by with_unfolding_all rfl) (wp_fld0 hF2 Tryz.underlying9 rfl (by with_unfolding_all exact ⟨_, rfl, rfl⟩) docL_m0 ?_)) | (with_reducible refine lst (by with_unfolding_all rfl) (wp_fld0 hF2 Tryz.underlying9 rfl (by with_unfolding_all exact ⟨_, rfl, rfl⟩) docL_t0 ?_)) | (with_reducible refine lst (by with_unfolding_all rfl) (wp_fldA0 hF2 Tryz.underlying37 rfl (by with_unfolding_all exact ⟨_, rfl, rfl⟩) (ds := cf2) (by rw [hcl2.out]; kernel_rfl) (by rw [hcl2.out]; exact docL_cf hcl2.out) ?_)) | (with_reducible refine lst (by with_unfolding_all rfl) (wp_fld0 hF2 Tryz.underlying38 rfl (by with_unfolding_all exact ⟨_, rfl, rfl⟩) (docL_eg hcl2.out) ?_)) | (with_reducible refine lst (by with_unfolding_all rfl) (wp_fldA0 hF2 Tryz.underlying37 rfl (by with_unfolding_all exact ⟨_, rfl, rfl⟩) (ds := sj2) (by rw [hsl2.out]; kernel_rfl) (by rw [hsl2.out]; exact docL_sj hcl2.out hsl2.out) ?_)) | (with_reducible refine lst (by with_unfolding_all rfl) (wp_fld0 hF2 Tryz.underlying4 rfl (by with_unfolding_all exact ⟨_, rfl, rfl⟩) (docL_has hcl2.out hsl2.out) ?_)) | (with_reducible refine lst (by with_unfolding_all rfl) (wp_fld0 hF2 Tryz.underlying35 rfl (by with_unfolding_all exact ⟨_, rfl, rfl⟩) (docL_nt hcl2.out hsl2.out) ?_)))
 refine (sC.out _ hF2.below).mono ?_
 rintro e w3 ⟨rfl, hb3⟩
 have hF3 := hF2.call hb3
 go_wp2_with (first | (with_reducible refine lst (by with_unfolding_all rfl) (wp_fld1 hF3 Tryz.underlying9 rfl (by with_unfolding_all exact ⟨_, rfl, rfl⟩) docL_m0 ?_)) | (with_reducible refine lst (by with_unfolding_all rfl) (wp_fld1 hF3 Tryz.underlying9 rfl (by with_unfolding_all exact ⟨_, rfl, rfl⟩) docL_t0 ?_)) | (with_reducible refine lst (by with_unfolding_all rfl) (wp_fldA1 hF3 Tryz.underlying37 rfl (by with_unfolding_all exact ⟨_, rfl, rfl⟩) (ds := cf1) (by rw [hcl1.out]; kernel_rfl) (by rw [hcl1.out]; exact docL_cf hcl1.out) ?_)) | (with_reducible refine lst (by with_unfolding_all rfl) (wp_fld1 hF3 Tryz.underlying38 rfl (by with_unfolding_all exact ⟨_, rfl, rfl⟩) (docL_eg hcl1.out) ?_)) | (with_reducible refine lst (by with_unfolding_all rfl) (wp_fldA1 hF3 Tryz.underlying37 rfl (by with_unfolding_all exact ⟨_, rfl, rfl⟩) (ds := sj1) (by rw [hsl1.out]; kernel_rfl) (by rw [hsl1.out]; exact docL_sj hcl1.out hsl1.out) ?_)) | (with_reducible refine lst (by with_unfolding_all rfl) (wp_fld1 hF3 Tryz.underlying4 rfl (by with_unfolding_all exact ⟨_, rfl, rfl⟩) (docL_has hcl1.out hsl1.out) ?_)) | (with_reducible refine lst (by with_unfolding_all rfl) (wp_fld1 hF3 Tryz.underlying35 rfl (by with_unfolding_all exact ⟨_, rfl, rfl⟩) (docL_nt hcl1.out hsl1.out) ?_)) | (with_reducible refine lst (by with_unfolding_all rfl) (wp_fld0 hF3 Tryz.underlying9 rfl (by with_unfolding_all exact ⟨_, rfl, rfl⟩) docL_m0 ?_)) | (with_reducible refine lst (by with_unfolding_all rfl) (wp_fld0 hF3 Tryz.underlying9 rfl (by with_unfolding_all exact ⟨_, rfl, rfl⟩) docL_t0 ?_)) | (with_reducible refine lst (by with_unfolding_all rfl) (wp_fldA0 hF3 Tryz.underlying37 rfl (by with_unfolding_all exact ⟨_, rfl, rfl⟩) (ds := cf2) (by rw [hcl2.out]; kernel_rfl) (by rw [hcl2.out]; exact docL_cf hcl2.out) ?_)) | (with_reducible refine lst (by with_unfolding_all rfl) (wp_fld0 hF3 Tryz.underlying38 rfl (by with_unfolding_all exact ⟨_, rfl, rfl⟩) (docL_eg hcl2.out) ?_)) | (with_reducible refine lst (by with_unfolding_all rfl) (wp_fldA0 hF3 Tryz.underlying37 rfl (by with_unfolding_all exact ⟨_, rfl, rfl⟩) (ds := sj2) (by rw [hsl2.out]; kernel_rfl) (by rw [hsl2.out]; exact docL_sj hcl2.out hsl2.out) ?_)) | (with_reducible refine lst (by with_unfolding_all rfl) (wp_fld0 hF3 Tryz.underlying4 rfl (by with_unfolding_all exact ⟨_, rfl, rfl⟩) (docL_has hcl2.out hsl2.out) ?_)) | (with_reducible refine lst (by with_unfolding_all rfl) (wp_fld0 hF3 Tryz.underlying35 rfl (by with_unfolding_all exact ⟨_, rfl, rfl⟩) (docL_nt hcl2.out hsl2.out) ?_)))
 refine (sE.out _ hF3.below).mono ?_
 rintro e w4 ⟨rfl, hb4⟩
 have hF4 := hF3.call hb4
 go_wp2_with (first | (with_reducible refine lst (by with_unfolding_all rfl) (wp_fld1 hF4 Tryz.underlying9 rfl (by with_unfolding_all exact ⟨_, rfl, rfl⟩) docL_m0 ?_)) | (with_reducible refine lst (by with_unfolding_all rfl) (wp_fld1 hF4 Tryz.underlying9 rfl (by with_unfolding_all exact ⟨_, rfl, rfl⟩) docL_t0 ?_)) | (with_reducible refine lst (by with_unfolding_all rfl) (wp_fldA1 hF4 Tryz.underlying37 rfl (by with_unfolding_all exact ⟨_, rfl, rfl⟩) (ds := cf1) (by rw [hcl1.out]; kernel_rfl) (by rw [hcl1.out]; exact docL_cf hcl1.out) ?_)) | (with_reducible refine lst (by with_unfolding_all rfl) (wp_fld1 hF4 Tryz.underlying38 rfl (by with_unfolding_all exact ⟨_, rfl, rfl⟩) (docL_eg hcl1.out) ?_)) | (with_reducible refine lst (by with_unfolding_all rfl) (wp_fldA1 hF4 Tryz.underlying37 rfl (by with_unfolding_all exact ⟨_, rfl, rfl⟩) (ds := sj1) (by rw [hsl1.out]; kernel_rfl) (by rw [hsl1.out]; exact docL_sj hcl1.out hsl1.out) ?_)) | (with_reducible refine lst (by with_unfolding_all rfl) (wp_fld1 hF4 Tryz.underlying4 rfl (by with_unfolding_all exact ⟨_, rfl, rfl⟩) (docL_has hcl1.out hsl1.out) ?_)) | (with_reducible refine lst (by with_unfolding_all rfl) (wp_fld1 hF4 Tryz.underlying35 rfl (by with_unfolding_all exact ⟨_, rfl, rfl⟩) (docL_nt hcl1.out hsl1.out) ?_)) | (with_reducible refine lst (by with_unfolding_all rfl) (wp_fld0 hF4 Tryz.underlying9 rfl (by with_unfolding_all exact ⟨_, rfl, rfl⟩) docL_m0 ?_)) | (with_reducible refine lst (by with_unfolding_all rfl) (wp_fld0 hF4 Tryz.underlying9 rfl (by with_unfolding_all exact ⟨_, rfl, rfl⟩) docL_t0 ?_)) | (with_reducible refine lst (by with_unfolding_all rfl) (wp_fldA0 hF4 Tryz.underlying37 rfl (by with_unfolding_all exact ⟨_, rfl, rfl⟩) (ds := cf2) (by rw [hcl2.out]; kernel_rfl) (by rw [hcl2.out]; exact docL_cf hcl2.out) ?_)) | (with_reducible refine lst (by with_unfolding_all rfl) (wp_fld0 hF4 Tryz.underlying38 rfl (by with_unfolding_all exact ⟨_, rfl, rfl⟩) (docL_eg hcl2.out) ?_)) | (with_reducible refine lst (by with_unfolding_all rfl) (wp_fldA0 hF4 Tryz.underlying37 rfl (by with_unfolding_all exact ⟨_, rfl, rfl⟩) (ds := sj2) (by rw [hsl2.out]; kernel_rfl) (by rw [hsl2.out]; exact docL_sj hcl2.out hsl2.out) ?_)) | (with_reducible refine lst (by with_unfolding_all rfl) (wp_fld0 hF4 Tryz.underlying4 rfl (by with_unfolding_all exact ⟨_, rfl, rfl⟩) (docL_has hcl2.out hsl2.out) ?_)) | (with_reducible refine lst (by with_unfolding_all rfl) (wp_fld0 hF4 Tryz.underlying35 rfl (by with_unfolding_all exact ⟨_, rfl, rfl⟩) (docL_nt hcl2.out hsl2.out) ?_)))
 refine (sS.out _ hF4.below).mono ?_
 rintro e w5 ⟨rfl, hb5⟩
 have hF5 := hF4.call hb5
 go_wp2_with (first | (with_reducible refine lst (by with_unfolding_all rfl) (wp_fld1 hF5 Tryz.underlying9 rfl (by with_unfolding_all exact ⟨_, rfl, rfl⟩) docL_m0 ?_)) | (with_reducible refine lst (by with_unfolding_all rfl) (wp_fld1 hF5 Tryz.underlying9 rfl (by with_unfolding_all exact ⟨_, rfl, rfl⟩) docL_t0 ?_)) | (with_reducible refine lst (by with_unfolding_all rfl) (wp_fldA1 hF5 Tryz.underlying37 rfl (by with_unfolding_all exact ⟨_, rfl, rfl⟩) (ds := cf1) (by rw [hcl1.out]; kernel_rfl) (by rw [hcl1.out]; exact docL_cf hcl1.out) ?_)) | (with_reducible refine lst (by with_unfolding_all rfl) (wp_fld1 hF5 Tryz.underlying38 rfl (by with_unfolding_all exact ⟨_, rfl, rfl⟩) (docL_eg hcl1.out) ?_)) | (with_reducible refine lst (by with_unfolding_all rfl) (wp_fldA1 hF5 Tryz.underlying37 rfl (by with_unfolding_all exact ⟨_, rfl, rfl⟩) (ds := sj1) (by rw [hsl1.out]; kernel_rfl) (by rw [hsl1.out]; exact docL_sj hcl1.out hsl1.out) ?_)) | (with_reducible refine lst (by with_unfolding_all rfl) (wp_fld1 hF5 Tryz.underlying4 rfl (by with_unfolding_all exact ⟨_, rfl, rfl⟩) (docL_has hcl1.out hsl1.out) ?_)) | (with_reducible refine lst (by with_unfolding_all rfl) (wp_fld1 hF5 Tryz.underlying35 rfl (by with_unfolding_all exact ⟨_, rfl, rfl⟩) (docL_nt hcl1.out hsl1.out) ?_)) | (with_reducible refine lst (by with_unfolding_all rfl) (wp_fld0 hF5 Tryz.underlying9 rfl (by with_unfolding_all exact ⟨_, rfl, rfl⟩) docL_m0 ?_)) | (with_reducible refine lst (by with_unfolding_all rfl) (wp_fld0 hF5 Tryz.underlying9 rfl (by with_unfolding_all exact ⟨_, rfl, rfl⟩) docL_t0 ?_)) | (with_reducible refine lst (by with_unfolding_all rfl) (wp_fldA0 hF5 Tryz.underlying37 rfl (by with_unfolding_all exact ⟨_, rfl, rfl⟩) (ds := cf2) (by rw [hcl2.out]; kernel_rfl) (by rw [hcl2.out]; exact docL_cf hcl2.out) ?_)) | (with_reducible refine lst (by with_unfolding_all rfl) (wp_fld0 hF5 Tryz.underlying38 rfl (by with_unfolding_all exact ⟨_, rfl, rfl⟩) (docL_eg hcl2.out) ?_)) | (with_reducible refine lst (by with_unfolding_all rfl) (wp_fldA0 hF5 Tryz.underlying37 rfl (by with_unfolding_all exact ⟨_, rfl, rfl⟩) (ds := sj2) (by rw [hsl2.out]; kernel_rfl) (by rw [hsl2.out]; exact docL_sj hcl2.out hsl2.out) ?_)) | (with_reducible refine lst (by with_unfolding_all rfl) (wp_fld0 hF5 Tryz.underlying4 rfl (by with_unfolding_all exact ⟨_, rfl, rfl⟩) (docL_has hcl2.out hsl2.out) ?_)) | (with_reducible refine lst (by with_unfolding_all rfl) (wp_fld0 hF5 Tryz.underlying35 rfl (by with_unfolding_all exact ⟨_, rfl, rfl⟩) (docL_nt hcl2.out hsl2.out) ?_)))
 refine (sN.out _ hF5.below).mono ?_
 rintro e w6 ⟨rfl, hb6⟩
 have hF6 := hF5.call hb6
 go_wp2_with fail
 go_ret
 exact ⟨by simp, hF6.below⟩
end Go.Proofs.YtlhicfpmlncomaaGreatDoor

namespace Go.Proofs.YtlhicfpmlncomaaGreatDoor
open Go.RowKit
set_option linter.unusedSimpArgs false
end Go.Proofs.YtlhicfpmlncomaaGreatDoor

namespace Go.Proofs.YtlhicfpmlncomaaGreatDoor
open Go.RowKit
set_option linter.unusedSimpArgs false
def jRightL (f : JV → Nat → Option Nat) (obj : Bool) : List (List UInt8) → List (List UInt8) → List JV → Nat → Option Nat
 | _, _, [], m => some m
 | seen, ns, v :: vs, m =>
  if obj = true ∧ (Lib.validD (ns.headD []) = false ∨ ns.headD [] ∈ seen) then none else
   match f v m with
   | none => none
   | some m' => jRightL f obj (seen ++ [ns.headD []]) ns.tail vs m'
/-- What no value is right with, as the m-th and one. -/
def jBad (k n : Int) (t : List UInt8) (m : Nat) : Prop := 4096 < m + 1 ∨ k < 0 ∨ 6 < k ∨ Lib.validD t = false ∨ 9007199254740991 < n ∨ n < -9007199254740991
instance (k n : Int) (t : List UInt8) (m : Nat) : Decidable (jBad k n t m) := by unfold jBad; exact inferInstance
/-- Is a value right, where so many lists and objects may still be nested and so many values came ahead? How many it makes. -/
def jRight : Nat → JV → Nat → Option Nat
 | 0, .mk k n t _ _, m => if jBad k n t m then none else if k < 5 then some (m + 1) else none
 | d + 1, .mk k n t ns ks, m => if jBad k n t m then none else if k < 5 then some (m + 1) else if k = 6 ∧ ns.length ≠ ks.length then none else jRightL (jRight d) (k == 6) [] ns ks (m + 1)
theorem jRight_bad {d : Nat} {k n : Int} {t : List UInt8} {ns : List (List UInt8)} {ks : List JV} {m : Nat} (h : jBad k n t m) : jRight d (.mk k n t ns ks) m = none := by
 cases d <;> (rw [jRight, if_pos h])
theorem jRight_leaf {d : Nat} {k n : Int} {t : List UInt8} {ns : List (List UInt8)} {ks : List JV} {m : Nat} (h : ¬ jBad k n t m) (hk : k < 5) : jRight d (.mk k n t ns ks) m = some (m + 1) := by
 cases d <;> (rw [jRight, if_neg h, if_pos hk])
end Go.Proofs.YtlhicfpmlncomaaGreatDoor

namespace Go.Proofs.YtlhicfpmlncomaaGreatDoor
theorem JV.size_kid {k n : Int} {t : List UInt8} {ns : List (List UInt8)} {ks : List JV} {v : JV} {i : Nat} (h : ks[i]? = some v) : SizeOf.sizeOf v < SizeOf.sizeOf (JV.mk k n t ns ks) := by
 have := List.sizeOf_lt_of_mem (List.mem_of_getElem? h)
 simp only [JV.mk.sizeOf_spec]
 omega
end Go.Proofs.YtlhicfpmlncomaaGreatDoor

namespace Go.Proofs.YtlhicfpmlncomaaGreatDoor
open Go.RowKit
section
variable {P : Program} {w : World}
end
end Go.Proofs.YtlhicfpmlncomaaGreatDoor

namespace Go.Proofs.YtlhicfpmlncomaaGreatDoor
open Go.RowKit
set_option linter.unusedSimpArgs false
def jHexD (n : Nat) : UInt8 := if n < 10 then UInt8.ofNat (48 + n) else UInt8.ofNat (87 + n)
/-- A sign of a text as it is written. -/
def jQc (c : UInt8) : List UInt8 :=
 if c = 34 ∨ c = 92 then [92, c]
 else if c = 8 then [92, 98]
 else if c = 9 then [92, 116]
 else if c = 10 then [92, 110]
 else if c = 12 then [92, 102]
 else if c = 13 then [92, 114]
 else if c.toNat < 32 then [92, 117, 48, 48, jHexD (c.toNat / 16), jHexD (c.toNat % 16)]
 else [c]
def jQuote (s : List UInt8) : List UInt8 := [34] ++ s.flatMap jQc ++ [34]
theorem jQc_len (c : UInt8) : (jQc c).length ≤ 6 := by
 unfold jQc
 repeat' split
 all_goals simp
theorem jQs_len : ∀ (s : List UInt8), (s.flatMap jQc).length ≤ 6 * s.length
 | [] => Nat.le_refl _
 | c :: s => by
  rw [List.flatMap_cons, List.length_append, List.length_cons]
  have := jQc_len c
  have := jQs_len s
  omega
theorem jQuote_len (s : List UInt8) : (jQuote s).length ≤ 6 * s.length + 2 := by
 have := jQs_len s
 unfold jQuote
 simp only [List.length_append, List.length_cons, List.length_nil]
 omega
end Go.Proofs.YtlhicfpmlncomaaGreatDoor

namespace Go.Proofs.YtlhicfpmlncomaaGreatDoor
open Go.RowKit
set_option linter.unusedSimpArgs false
mutual
/-- A value as it is written. -/
def jFull : JV → List UInt8
 | .mk k n t ns ks =>
  if k = 0 then [110, 117, 108, 108] else if k = 1 then [102, 97, 108, 115, 101] else if k = 2 then [116, 114, 117, 101]
  else if k = 3 then Lib.itoa n else if k = 4 then jQuote t
  else if k = 6 then [123] ++ jFullL true false ns ks ++ [125] else [91] ++ jFullL false false ns ks ++ [93]
def jFullL (obj : Bool) : Bool → List (List UInt8) → List JV → List UInt8
 | _, _, [] => []
 | more, ns, v :: vs => (if more then [44] else []) ++ ((if obj then jQuote (ns.headD []) ++ [58] else []) ++ (jFull v ++ jFullL obj true ns.tail vs))
end
mutual
/-- A value that may be written: its kinds, its members' names. -/
def JOk : JV → Prop
 | .mk k n _ ns ks => (k = 0 ∨ k = 1 ∨ k = 2 ∨ (k = 3 ∧ -9223372036854775808 ≤ n ∧ n ≤ 9223372036854775807) ∨ k = 4) ∨ (k = 5 ∧ JOkL ks) ∨ (k = 6 ∧ ns.length = ks.length ∧ JOkL ks)
def JOkL : List JV → Prop
 | [] => True
 | v :: vs => JOk v ∧ JOkL vs
end
theorem JOkL.at : ∀ {ks : List JV} {i : Nat} {v : JV}, JOkL ks → ks[i]? = some v → JOk v
 | [], _, _, _, hv => by cases hv
 | k :: ks, i, v, h, hv => by
  rw [JOkL] at h
  cases i with
  | zero => injection hv with hv; subst hv; exact h.1
  | succ i => exact JOkL.at h.2 (by simpa using hv)
theorem jFullL_drop {obj more : Bool} {ns : List (List UInt8)} {ks : List JV} {i : Nat} {v : JV} (hv : ks[i]? = some v) :
  jFullL obj more (ns.drop i) (ks.drop i) = (if more then [44] else []) ++ ((if obj then jQuote ((ns.drop i).headD []) ++ [58] else []) ++ (jFull v ++ jFullL obj true (ns.drop (i + 1)) (ks.drop (i + 1)))) := by
 rw [List.drop_eq_getElem_cons (List.getElem?_eq_some_iff.1 hv).1, (List.getElem?_eq_some_iff.1 hv).2, jFullL, List.tail_drop]
theorem jQs_ge : ∀ (s : List UInt8), s.length ≤ (s.flatMap jQc).length
 | [] => Nat.le_refl _
 | c :: s => by
  rw [List.flatMap_cons, List.length_append, List.length_cons]
  have h1 : 1 ≤ (jQc c).length := by
   unfold jQc
   repeat' split
   all_goals simp
  have := jQs_ge s
  omega
theorem jQuote_ge (s : List UInt8) : s.length + 2 ≤ (jQuote s).length := by
 have := jQs_ge s
 unfold jQuote
 simp only [List.length_append, List.length_cons, List.length_nil]
 omega
theorem itoa_len {n : Int} (h0 : -9223372036854775808 ≤ n) (h1 : n ≤ 9223372036854775807) : (Lib.itoa n).length ≤ 20 := by
 unfold Lib.itoa
 split
 ·have := decDigits_len 18 n.natAbs (by omega)
  simp only [List.length_cons]; omega
 ·have := decDigits_len 18 n.toNat (by omega)
  omega
/-- What 'written' tells: the text, or more than may be. -/
def WrPost (w0 : World) (rest : List Ent) (full : List UInt8) (e : Ending) (w' : World) : Prop :=
 ∃ v l, e = .returned v ∧ Box (l.length ≤ full.length ∧ (l = full ∨ 65536 < l.length)) ∧ Fr [] w0 w' (Ent.bytes w0.heap.size 5 v l :: rest)
def NotU8 (rest : List Ent) : Prop := ∀ e ∈ rest, ∃ g t cs, t ≠ 5 ∧ e = Ent.blk g t cs
theorem NotU8.cons {rest : List Ent} (h : NotU8 rest) {g : Nat} {t : TypeId} {cs : List Value} (ht : t ≠ 5) : NotU8 (.blk g t cs :: rest) := by
 intro e he
 rcases List.mem_cons.1 he with rfl | he
 ·exact ⟨_, _, _, ht, rfl⟩
 ·exact h e he
theorem VRd.one {w : World} {S : Nat → Prop} {v : JV} {cs : List Value} (h : VRd w S v cs) : ∀ u ∈ cs, u.oneCell' = true := by
 cases v
 rw [VRd] at h
 obtain ⟨_, _, _, _, _, _, _, _, _, rfl, _⟩ := h
 exact vlL_one
end Go.Proofs.YtlhicfpmlncomaaGreatDoor

namespace Go.Proofs.YtlhicfpmlncomaaGreatDoor
open Go.RowKit
set_option linter.unusedSimpArgs false
mutual
/-- No text of a value is longer than any machine bears. -/
def JTx : JV → Prop
 | .mk _ _ t ns ks => t.length ≤ 140737488355328 ∧ (∀ s ∈ ns, s.length ≤ 140737488355328) ∧ JTxL ks
def JTxL : List JV → Prop
 | [] => True
 | v :: vs => JTx v ∧ JTxL vs
end
theorem JTxL.at : ∀ {ks : List JV} {i : Nat} {v : JV}, JTxL ks → ks[i]? = some v → JTx v
 | [], _, _, _, hv => by cases hv
 | k :: ks, i, v, h, hv => by
  rw [JTxL] at h
  cases i with
  | zero => injection hv with hv; subst hv; exact h.1
  | succ i => exact JTxL.at h.2 (by simpa using hv)
end Go.Proofs.YtlhicfpmlncomaaGreatDoor

namespace Go.Proofs.YtlhicfpmlncomaaGreatDoor
open Go.RowKit
/-- A slice literal of one byte that was reckoned. -/
theorem wp_fb1 {P : Program} {o : Oper} {a : Act} {K : Act → World → Prop} {Q : Exit → Act → World → Prop} {X : List Nat} {w0 w : World} {es : List Ent} {sl e : TypeId} (T : SlT P sl e 1 1 (.int .u8 0)) (hF : Fr X w0 w es) {p : Operand} (ho : o.op = .buildSlice sl 1 #[(0, p)]) {z : Int} {c : UInt8} (hz : z = (c.toNat : Int)) (hv : a.eval p = .int .u8 z)
  (k : ∀ w' g, Fr X w0 w' (Ent.bytes w0.heap.size e (.slice (some ⟨g, 0, none⟩) 1 1) [c] :: es) → w'.heap.size = w.heap.size + 1 → K (a.put o.dst (.slice (some ⟨g, 0, none⟩) 1 1)) w') : o.wp P a w K Q := by
 subst hz
 exact wp_fbsl T hF ho (vs := [bv c]) (by simp [hv, parts, bv]) rfl (by decide) (by simp [bv, Value.cells]) k
end Go.Proofs.YtlhicfpmlncomaaGreatDoor

namespace Go.Proofs.YtlhicfpmlncomaaGreatDoor
open Go.RowKit
set_option linter.unusedSimpArgs false
theorem str_appj (a b : List UInt8) : (⟨a.toArray⟩ : ByteArray) ++ (⟨b.toArray⟩ : ByteArray) = ⟨(a ++ b).toArray⟩ := by
 apply ByteArray.ext
 simp
theorem str_cons (c : UInt8) (b : List UInt8) : ({ data := #[c] } : ByteArray) ++ (⟨b.toArray⟩ : ByteArray) = ⟨(c :: b).toArray⟩ := str_appj [c] b
theorem dig_byte (m : Nat) : 48 + (m : Int) % 10 = ((UInt8.ofNat (48 + m % 10)).toNat : Int) := by
 rw [UInt8.toNat_ofNat']
 omega
set_option maxRecDepth 20000 in
set_option maxHeartbeats 6400000 in
theorem rdec_nat (u : Nat) (w : World) (hu : u ≤ 9007199254740991) :
  Calls Tryz.prog 105 #[.int .i64 (u : Int)] w fun e w' => e = .returned (.string ⟨(Lib.decDigits u).toArray⟩) ∧ Below w.heap.size w w' := by
 have hF0 := Fr.nil w
 obtain ⟨R, hR⟩ : ∃ R, R = Lib.decDigits u := ⟨_, rfl⟩
 rw [← hR]
 replace hR := box hR
 have hd0 : decide ((u : Int) < 0) = false := decide_eq_false (by omega)
 have hRl : Box (R.length ≤ 20) := box (by have := decDigits_len 18 u (by omega); rw [hR.out]; omega)
 replace hu := box hu
 go_enter Tryz.func105, Tryz.ntmps105
 go_wp2_with fail
 go_loopg [0, 3] u (fun gk a b wr => ∃ (m : Nat) (s : List UInt8), m ≤ 9007199254740991 ∧ Box (gk = m) ∧ a = .int .i64 (m : Int) ∧ b = .string ⟨s.toArray⟩ ∧ Box (R = Lib.decDigits m ++ s) ∧ Fr [] w wr [])
 case atStart => exact ⟨u, [], hu.out, box rfl, rfl, rfl, box (by rw [hR.out, List.append_nil]), hF0⟩
 case round =>
  clear hF0 hd0
  obtain ⟨m, s, hm, hk, rfl, rfl, hRm, hF⟩ := hrel
  have hsl : s.length ≤ 20 := by have h1 := hRl.out; have h2 := congrArg List.length hRm.out; rw [List.length_append] at h2; omega
  by_cases h9 : 9 < m
  ·have hd : decide ((9 : Int) < (m : Int)) = true := decide_eq_true (by omega)
   obtain ⟨c, hc⟩ : ∃ c, c = UInt8.ofNat (48 + m % 10) := ⟨_, rfl⟩
   have hdb := box (dig_byte m)
   rw [← hc] at hdb
   have hRn : Box (R = Lib.decDigits (m / 10) ++ (c :: s)) := box (by rw [hRm.out, Lib.decDigits, dif_neg (by omega), hc, List.append_assoc]; rfl)
   replace hc := box hc
   go_wp2_with (first | ((with_reducible refine lst (by with_unfolding_all rfl) (wp_fb1 T_u8 hF rfl hdb.out (by with_unfolding_all rfl) ?_)); intro w2 g2 hF2 hz2; have hr2 := hF2.rdOwn0) | (with_reducible refine lst (by with_unfolding_all rfl) (wp_b2s T_u8 Tryz.underlying5 Tryz.underlying9 hr2 (by with_unfolding_all exact ⟨_, rfl, rfl⟩) ?_)))
   go_roundg (m / 10)
   case rel => exact ⟨m / 10, c :: s, by omega, box rfl, by go_num, by rw [← str_cons c s], hRn, hF2.tail⟩
   case measure => have := hk.out; omega
  ·have hd : decide ((9 : Int) < (m : Int)) = false := decide_eq_false (by omega)
   obtain ⟨c, hc⟩ : ∃ c, c = UInt8.ofNat (48 + m) := ⟨_, rfl⟩
   have hdb : Box (48 + (m : Int) = (c.toNat : Int)) := box (by rw [hc, UInt8.toNat_ofNat']; omega)
   have hRn : Box (R = c :: s) := box (by rw [hRm.out, Lib.decDigits, dif_pos (by omega), hc]; rfl)
   replace hc := box hc
   go_wp2_with (first | ((with_reducible refine lst (by with_unfolding_all rfl) (wp_fb1 T_u8 hF rfl hdb.out (by with_unfolding_all rfl) ?_)); intro w2 g2 hF2 hz2; have hr2 := hF2.rdOwn0) | (with_reducible refine lst (by with_unfolding_all rfl) (wp_b2s T_u8 Tryz.underlying5 Tryz.underlying9 hr2 (by with_unfolding_all exact ⟨_, rfl, rfl⟩) ?_)))
   go_ret
   exact ⟨by rw [hRn.out, ← str_cons c s]; rfl, hF2.below⟩
theorem natAbs_neg' {n : Int} (h : n < 0) : (-n) = (n.natAbs : Int) := by omega
set_option maxRecDepth 20000 in
set_option maxHeartbeats 6400000 in
theorem rdec_any (n : Int) (w : World) (h0 : -9007199254740991 ≤ n) (h1 : n ≤ 9007199254740991) :
  Calls Tryz.prog 105 #[.int .i64 n] w fun e w' => e = .returned (.string ⟨(Lib.itoa n).toArray⟩) ∧ Below w.heap.size w w' := by
 by_cases hn : n < 0
 ·obtain ⟨R, hR⟩ : ∃ R, R = Lib.itoa n := ⟨_, rfl⟩
  rw [← hR]
  have hit : Box (R = 45 :: Lib.decDigits n.natAbs) := box (by rw [hR]; unfold Lib.itoa; rw [if_pos hn])
  have hdl := decDigits_len 18 n.natAbs (by omega)
  have hd0 : decide (n < 0) = true := decide_eq_true hn
  have hcall := box (fun w' => rdec_nat n.natAbs w' (by omega))
  obtain ⟨N, hN⟩ : ∃ N : Nat, N = n.natAbs := ⟨_, rfl⟩
  rw [← hN] at hcall hit hdl
  have hneg : IntKind.i64.wrap (-n) = (N : Int) := by
   rw [hN, ← natAbs_neg' hn]
   simp [IntKind.wrap, IntKind.bits, IntKind.signed]
   split <;> omega
  have hneg2 : -n = (N : Int) := by rw [hN, ← natAbs_neg' hn]
  replace hneg2 := box hneg2
  replace hN := box hN
  replace hn := box hn
  replace hR := box hR
  replace h0 := box h0
  replace h1 := box h1
  go_enter Tryz.func105, Tryz.ntmps105
  go_wp2_with fail
  refine (hcall.out _).mono ?_
  rintro e w2 ⟨rfl, hb2⟩
  go_wp2_with fail
  go_ret
  exact ⟨by rw [hit.out, ← str_cons 45 (Lib.decDigits N)]; rfl, hb2⟩
 ·obtain ⟨u, rfl⟩ : ∃ u : Nat, n = (u : Int) := ⟨n.toNat, by omega⟩
  have : Lib.itoa (u : Int) = Lib.decDigits u := by unfold Lib.itoa; rw [if_neg hn, Int.toNat_natCast]
  rw [this]
  exact rdec_nat u w (by omega)
end Go.Proofs.YtlhicfpmlncomaaGreatDoor

namespace Go.Proofs.YtlhicfpmlncomaaGreatDoor
open Go.RowKit
set_option linter.unusedSimpArgs false
/-- A sign of a text, by its place. -/
theorem run_sidx {P : Program} {t : TypeId} (ht : P.underlying t = some .string) {s : ByteArray} {kd : IntKind} {j : Int} {k : Nat} {c : UInt8} (hj : j = (k : Int)) (hc : s.data.toList[k]? = some c) (w : World) : (Instr.index t (.string s) (.int kd j)).run P w = .ok (.int .u8 (c.toNat : Int)) w := by
 subst hj
 have hk : k < s.data.toList.length := (List.getElem?_eq_some_iff.1 hc).1
 have hk2 : k < s.size := by rw [← str_len s]; exact hk
 have he : s[k]'hk2 = c := by
  have := (List.getElem?_eq_some_iff.1 hc).2
  rw [← this]
  rfl
 rw [run_index_string w t s kd _ ht, dif_pos ⟨by omega, by omega⟩]
 simp only [Int.toNat_natCast, he]
theorem wp_sidx {P : Program} {o : Oper} {a : Act} {w : World} {K : Act → World → Prop} {Q : Exit → Act → World → Prop} {t : TypeId} (ht : P.underlying t = some .string) {s : ByteArray} {j : Int} {k : Nat} {c : UInt8} (hj : j = (k : Int)) (hc : s.data.toList[k]? = some c)
  (ho : ∃ x i kd, o.op = .index t x i ∧ a.eval x = .string s ∧ a.eval i = .int kd j) (hK : K (a.put o.dst (.int .u8 (c.toNat : Int))) w) : o.wp P a w K Q := by
 obtain ⟨x, i, kd, ho, hx, hi⟩ := ho
 refine wp_run (v := .int .u8 (c.toNat : Int)) (w' := w) ?_ hK
 unfold execOp
 simp [ho, hx, hi, run_sidx ht hj hc]
theorem yi_sidx {P : Program} {S : World → Prop} {ops : Array Oper} {o : Oper} {a : Act} (hw : Region.wanted o (yielded ops a.tmps) = true) {t : TypeId} (ht : P.underlying t = some .string) {s : ByteArray} {j : Int} {k : Nat} {c : UInt8} (hj : j = (k : Int)) (hc : s.data.toList[k]? = some c)
  (ho : ∃ x i kd, o.op = .index t x i ∧ a.eval x = .string s ∧ a.eval i = .int kd j) : YieldsIf P ops S o (.int .u8 (c.toNat : Int)) a := by
 obtain ⟨x, i, kd, ho, hx, hi⟩ := ho
 refine .inl ⟨hw, fun w _ => ?_⟩
 unfold execOp
 simp [ho, hx, hi, run_sidx ht hj hc]
end Go.Proofs.YtlhicfpmlncomaaGreatDoor

namespace Go.Proofs.YtlhicfpmlncomaaGreatDoor
open Go.RowKit
set_option linter.unusedSimpArgs false
def qPairs : List (UInt8 × UInt8) := [(34, 34), (92, 92), (8, 98), (12, 102), (10, 110), (13, 114), (9, 116)]
/-- What stands behind the first short signs: the bytes, and whether one was met. -/
def qSt (y : UInt8) (O : List UInt8) (q : Nat) : List UInt8 × Bool := (qPairs.take q).foldl (fun st p => if y = p.1 then (st.1 ++ [92, p.2], true) else st) (O, false)
theorem qPairs_at : ∀ q, q < 7 → ∃ a b, ([34, 92, 8, 12, 10, 13, 9] : List UInt8)[q]? = some a ∧ ([34, 92, 98, 102, 110, 114, 116] : List UInt8)[q]? = some b ∧ qPairs[q]? = some (a, b) := by
 intro q hq
 match q, hq with
 | 0, _ => exact ⟨_, _, rfl, rfl, rfl⟩
 | 1, _ => exact ⟨_, _, rfl, rfl, rfl⟩
 | 2, _ => exact ⟨_, _, rfl, rfl, rfl⟩
 | 3, _ => exact ⟨_, _, rfl, rfl, rfl⟩
 | 4, _ => exact ⟨_, _, rfl, rfl, rfl⟩
 | 5, _ => exact ⟨_, _, rfl, rfl, rfl⟩
 | 6, _ => exact ⟨_, _, rfl, rfl, rfl⟩
theorem qSt_step {y a b : UInt8} {O : List UInt8} {q : Nat} (h : qPairs[q]? = some (a, b)) : qSt y O (q + 1) = if y = a then ((qSt y O q).1 ++ [92, b], true) else qSt y O q := by
 unfold qSt
 rw [List.take_add_one, h, Option.toList_some, List.foldl_append]
 rfl
theorem qSt_end {y : UInt8} {O : List UInt8} : (qSt y O 7).2 = true ∧ (qSt y O 7).1 = O ++ jQc y ∨ (qSt y O 7).2 = false ∧ (qSt y O 7).1 = O ∧ (y.toNat < 32 ∧ jQc y = [92, 117, 48, 48, jHexD (y.toNat / 16), jHexD (y.toNat % 16)] ∨ ¬ y.toNat < 32 ∧ jQc y = [y]) := by
 unfold qSt qPairs jQc
 simp only [List.take_succ_cons, List.take_zero, List.foldl_cons, List.foldl_nil]
 by_cases h1 : y = 34
 ·subst h1; left; exact ⟨by simp, by simp⟩
 by_cases h2 : y = 92
 ·subst h2; left; exact ⟨by simp, by simp⟩
 by_cases h3 : y = 8
 ·subst h3; left; exact ⟨by simp, by simp⟩
 by_cases h4 : y = 12
 ·subst h4; left; exact ⟨by simp, by simp⟩
 by_cases h5 : y = 10
 ·subst h5; left; exact ⟨by simp, by simp⟩
 by_cases h6 : y = 13
 ·subst h6; left; exact ⟨by simp, by simp⟩
 by_cases h7 : y = 9
 ·subst h7; left; exact ⟨by simp, by simp⟩
 right
 simp only [h1, h2, h3, h4, h5, h6, h7, if_false, or_self, true_and]
 by_cases h : y.toNat < 32
 ·left; exact ⟨h, by rw [if_pos h]⟩
 ·right; exact ⟨h, by rw [if_neg h]⟩
theorem hex_at : ∀ n, n < 16 → ([48, 49, 50, 51, 52, 53, 54, 55, 56, 57, 97, 98, 99, 100, 101, 102] : List UInt8)[n]? = some (jHexD n) := by decide +kernel
theorem u8_div (y : UInt8) : (y.toNat : Int) / 16 = ((y.toNat / 16 : Nat) : Int) := by omega
theorem u8_rem (y : UInt8) : (y.toNat : Int) % 16 = ((y.toNat % 16 : Nat) : Int) := by omega
set_option maxRecDepth 20000 in
set_option maxHeartbeats 12800000 in
theorem rquote_any (X : List Nat) (w0 w : World) (A : Option Addr) (c : Nat) (out : List UInt8) (rest : List Ent) (s : ByteArray) (hroom : out.length + 6 * s.size ≤ 140737488000000)
  (hF : Fr X w0 w (Ent.bytes w0.heap.size 5 (.slice A out.length c) out :: rest)) :
  Calls Tryz.prog 106 #[.slice A out.length c, .string s] w fun e w' => ∃ v, e = .returned v ∧ Fr X w0 w' (Ent.bytes w0.heap.size 5 v (out ++ jQuote s.data.toList) :: rest) := by
 have hsl : s.data.toList.length = s.size := str_len s
 replace hsl := box hsl
 go_enter Tryz.func106, Tryz.ntmps106
 go_wp2_with (first | ((with_reducible refine lst (by with_unfolding_all rfl) (wp_fbsl T_u8 hF (vs := [bv 34]) (by with_unfolding_all rfl) (by with_unfolding_all rfl) (by with_unfolding_all rfl) (by decide) (by simp [bv, Value.cells]) ?_)); intro w1 g1 hF1 hz1; have hr1 : Rd w1 (· < w1.heap.size) (some ⟨g1, 0, none⟩) 1 1 ([34].map bv) := hF1.rdOwn0; replace hF1 : Fr _ _ w1 (Ent.bytes _ 5 (.slice (some ⟨g1, 0, none⟩) 1 1) [34] :: _) := hF1) | ((with_reducible refine lst (by with_unfolding_all rfl) (wp_fapp1 T_u8 hF1 (Nat.le_refl _) hr1 (by with_unfolding_all exact ⟨_, _, rfl, rfl, rfl⟩) (by omega) ?_)); intro v2 w2 hF2 hz2))
 have hF3 := hF2.tail
 clear hF hF1 hF2
 go_loopg [0, 8] s.size (fun k v i wr => ∃ (j : Nat) (O : List UInt8), j ≤ s.size ∧ Box (k = s.size - j) ∧ i = .int .i64 (j : Int) ∧ O.length ≤ out.length + 1 + 6 * j ∧ Box (out ++ jQuote s.data.toList = O ++ (s.data.toList.drop j).flatMap jQc ++ [34]) ∧ Fr X w0 wr (Ent.bytes w0.heap.size 5 v O :: rest))
 case atStart => exact ⟨0, _, by omega, box rfl, rfl, by simp, box (by simp [jQuote]), hF3⟩
 case round =>
  clear hF3
  obtain ⟨j, O, hj, hk, rfl, hO, hQ, hF⟩ := hrel
  have hkf : Box (gk = s.size - j) := hk
  clear hk
  by_cases hlt : j < s.size
  ·obtain ⟨y, hy'⟩ : ∃ y, s.data.toList[j]? = some y := ⟨s.data.toList[j]'(by rw [hsl.out]; exact hlt), by simp⟩
   have hdr : s.data.toList.drop j = y :: s.data.toList.drop (j + 1) := by
    rw [List.drop_eq_getElem_cons (by rw [hsl.out]; exact hlt), (List.getElem?_eq_some_iff.1 hy').2]
   have hgo : Box (out ++ jQuote s.data.toList = O ++ jQc y ++ (s.data.toList.drop (j + 1)).flatMap jQc ++ [34]) := box (by rw [hQ.out, hdr, List.flatMap_cons]; simp)
   have hql := jQc_len y
   have hO2 : Box ((O ++ jQc y).length ≤ out.length + 1 + 6 * (j + 1)) := box (by rw [List.length_append]; omega)
   have hyb := y.toNat_lt
   replace hql := box hql
   have hy := box hy'
   clear hy' hdr hQ
   go_wp2_with fail
   go_loopg [0, 9, 10] 7 (fun gq v d k wr => ∃ (q : Nat) (U : List UInt8) (b : Bool), q ≤ 7 ∧ Box (gq = 7 - q) ∧ k = .int .i64 (q : Int) ∧ d = .bool b ∧ Box (qSt y O q = (U, b)) ∧ U.length ≤ O.length + 2 * q ∧ Fr X w0 wr (Ent.bytes w0.heap.size 5 v U :: rest))
   case atStart => exact ⟨0, O, false, by omega, box rfl, rfl, rfl, box rfl, by omega, hF⟩
   case round =>
    clear hF
    obtain ⟨q, U, d, hq, hk, rfl, rfl, hS, hUl, hF⟩ := hrel
    have hkq : Box (_ = 7 - q) := hk
    clear hk
    obtain ⟨Ao, co, rfl, hco, hro⟩ := (hF.own (i := 0) rfl).arg
    by_cases hq7 : q < 7
    ·obtain ⟨a, b, ha', hb', hp⟩ := qPairs_at q hq7
     have hst' := qSt_step (y := y) (O := O) hp
     rw [hS.out] at hst'
     have ha := box ha'
     have hb := box hb'
     clear ha' hb' hp
     by_cases hya : y = a
     ·subst hya
      rw [if_pos rfl] at hst'
      have hst := box hst'
      clear hst'
      go_upto_region 12 with fail
      have hFd := hF.drew
      refine wp_region_held (S := fun _ => True) (by kernel_rfl) ?_
      change wpAnyH _ _ _ _ _ _ _ _ (World.drew _)
      refine tkp 0 trivial ?_
      (try simp only [Act.put, List.setIfInBounds_toArray, List.set_cons_zero, List.set_cons_succ])
      refine tkp 1 trivial ?_
      (try simp only [Act.put, List.setIfInBounds_toArray, List.set_cons_zero, List.set_cons_succ])
      refine tky 2 (y := yi_sidx (by with_unfolding_all rfl) Tryz.underlying9 rfl hy.out (by with_unfolding_all exact ⟨_, _, _, rfl, rfl, rfl⟩)) (s := trivial) (h := ?_)
      (try simp only [Act.put, List.setIfInBounds_toArray, List.set_cons_zero, List.set_cons_succ])
      refine tkp 3 trivial ?_
      (try simp only [Act.put, List.setIfInBounds_toArray, List.set_cons_zero, List.set_cons_succ])
      refine tkp 4 trivial ?_
      (try simp only [Act.put, List.setIfInBounds_toArray, List.set_cons_zero, List.set_cons_succ])
      refine tky 5 (y := yi_sidx (by with_unfolding_all rfl) Tryz.underlying9 rfl ha.out (by with_unfolding_all exact ⟨_, _, _, rfl, rfl, rfl⟩)) (s := trivial) (h := ?_)
      (try simp only [Act.put, List.setIfInBounds_toArray, List.set_cons_zero, List.set_cons_succ])
      refine tkp 6 trivial ?_
      (try simp only [Act.put, List.setIfInBounds_toArray, List.set_cons_zero, List.set_cons_succ])
      refine wpAnyH_done (by kernel_rfl) ?_ _
      go_wp2_with (first | ((with_reducible refine lst (by with_unfolding_all rfl) (wp_fbsl T_u8 hFd (vs := [bv 92]) (by with_unfolding_all rfl) (by with_unfolding_all rfl) (by with_unfolding_all rfl) (by decide) (by simp [bv, Value.cells]) ?_)); intro w2 g2 hF2 hz2; have hr2 : Rd w2 (· < w2.heap.size) (some ⟨g2, 0, none⟩) 1 1 ([92].map bv) := hF2.rdOwn0; replace hF2 : Fr _ _ w2 (Ent.bytes _ 5 (.slice (some ⟨g2, 0, none⟩) 1 1) [92] :: _) := hF2) | ((with_reducible refine lst (by with_unfolding_all rfl) (wp_fapp1 T_u8 hF2 (Nat.le_refl _) hr2 (by with_unfolding_all exact ⟨_, _, rfl, rfl, rfl⟩) (by omega) ?_)); intro v3 w3 hF3 hz3) | ((with_reducible refine lst (by with_unfolding_all rfl) (wp_sidx Tryz.underlying9 (k := q) rfl hb.out (by with_unfolding_all exact ⟨_, _, _, rfl, rfl, rfl⟩) ?_))) | ((with_reducible refine lst (by with_unfolding_all rfl) (wp_fbsl T_u8 hF3 (vs := [bv b]) (by with_unfolding_all rfl) (by with_unfolding_all rfl) (by with_unfolding_all rfl) (by decide) (by simp [bv, Value.cells]) ?_)); intro w4 g4 hF4 hz4; have hr4 : Rd w4 (· < w4.heap.size) (some ⟨g4, 0, none⟩) 1 1 ([b].map bv) := hF4.rdOwn0; replace hF4 : Fr _ _ w4 (Ent.bytes _ 5 (.slice (some ⟨g4, 0, none⟩) 1 1) [b] :: _) := hF4) | ((with_reducible refine lst (by with_unfolding_all rfl) (wp_fapp2 T_u8 hF4 (Nat.le_refl _) hr4 (by with_unfolding_all exact ⟨_, _, rfl, rfl, rfl⟩) (by simp; omega) ?_)); intro v5 w5 hF5 hz5))
      go_roundg (7 - (q + 1))
      case rel => exact ⟨q + 1, U ++ [92] ++ [b], true, by omega, box rfl, by go_num, rfl, box (by rw [hst.out, List.append_assoc]; rfl), by simp only [List.length_append, List.length_cons, List.length_nil]; omega, hF5.tail.tail⟩
      case measure => have := hkq.out; omega
     ·rw [if_neg hya] at hst'
      have hst := box hst'
      have hne : ((y.toNat : Int) == (a.toNat : Int)) = false := u8_ne hya
      clear hst'
      replace hya := box hya
      go_upto_region 12 with fail
      have hFd := hF.drew
      refine wp_region_held (S := fun _ => True) (by kernel_rfl) ?_
      change wpAnyH _ _ _ _ _ _ _ _ (World.drew _)
      refine tkp 0 trivial ?_
      (try simp only [Act.put, List.setIfInBounds_toArray, List.set_cons_zero, List.set_cons_succ])
      refine tkp 1 trivial ?_
      (try simp only [Act.put, List.setIfInBounds_toArray, List.set_cons_zero, List.set_cons_succ])
      refine tky 2 (y := yi_sidx (by with_unfolding_all rfl) Tryz.underlying9 rfl hy.out (by with_unfolding_all exact ⟨_, _, _, rfl, rfl, rfl⟩)) (s := trivial) (h := ?_)
      (try simp only [Act.put, List.setIfInBounds_toArray, List.set_cons_zero, List.set_cons_succ])
      refine tkp 3 trivial ?_
      (try simp only [Act.put, List.setIfInBounds_toArray, List.set_cons_zero, List.set_cons_succ])
      refine tkp 4 trivial ?_
      (try simp only [Act.put, List.setIfInBounds_toArray, List.set_cons_zero, List.set_cons_succ])
      refine tky 5 (y := yi_sidx (by with_unfolding_all rfl) Tryz.underlying9 rfl ha.out (by with_unfolding_all exact ⟨_, _, _, rfl, rfl, rfl⟩)) (s := trivial) (h := ?_)
      (try simp only [Act.put, List.setIfInBounds_toArray, List.set_cons_zero, List.set_cons_succ])
      refine tkp 6 trivial ?_
      (try simp only [Act.put, List.setIfInBounds_toArray, List.set_cons_zero, List.set_cons_succ])
      refine wpAnyH_done (by kernel_rfl) ?_ _
      go_wp2_with fail
      go_roundg (7 - (q + 1))
      case rel => exact ⟨q + 1, U, d, by omega, box rfl, by go_num, rfl, hst, by omega, hFd⟩
      case measure => have := hkq.out; omega
    ·obtain rfl : q = 7 := by omega
     have hE := @qSt_end y O
     rw [hS.out] at hE
     simp only [] at hE
     clear hq7 hq
     rcases hE with ⟨hd, hU⟩ | ⟨hd, hU, hc⟩
     ·subst hd
      replace hU := box hU
      go_wp2_with fail
      go_roundg (s.size - (j + 1))
      case rel => exact ⟨j + 1, U, by omega, box rfl, by go_num, by rw [hU.out]; exact hO2.out, box (by rw [hU.out]; exact hgo.out), hF⟩
      case measure => have := hkf.out; omega
     ·subst hd
      subst hU
      rcases hc with ⟨h32, hc⟩ | ⟨h32, hc⟩
      ·rw [hc] at hgo hO2
       have d32 : decide ((y.toNat : Int) < 32) = true := decide_eq_true (by omega)
       have hx1 := box (hex_at (y.toNat / 16) (by omega))
       have hx2 := box (hex_at (y.toNat % 16) (by omega))
       obtain ⟨p, hp⟩ : ∃ p, p = jHexD (y.toNat / 16) := ⟨_, rfl⟩
       obtain ⟨r, hr⟩ : ∃ r, r = jHexD (y.toNat % 16) := ⟨_, rfl⟩
       rw [← hp] at hgo hO2 hx1
       rw [← hr] at hgo hO2 hx2
       have hj1 := box (u8_div y)
       have hj2 := box (u8_rem y)
       clear hp hr hc
       replace h32 := box h32
       go_wp2_with (first | ((with_reducible refine lst (by with_unfolding_all rfl) (wp_sidx Tryz.underlying9 (k := j) rfl hy.out (by with_unfolding_all exact ⟨_, _, _, rfl, rfl, rfl⟩) ?_))) | ((with_reducible refine lst (by with_unfolding_all rfl) (wp_fbsl T_u8 hF (vs := [bv 92, bv 117, bv 48, bv 48]) (by with_unfolding_all rfl) (by with_unfolding_all rfl) (by with_unfolding_all rfl) (by decide) (by simp [bv, Value.cells]) ?_)); intro w2 g2 hF2 hz2; have hr2 : Rd w2 (· < w2.heap.size) (some ⟨g2, 0, none⟩) 1 4 (([92,117,48,48] : List UInt8).map bv) := hF2.rdOwn (i := 0) rfl) | ((with_reducible refine lst (by with_unfolding_all rfl) (wp_fmark T_u8 Tryz.underlying5 hF2 (by with_unfolding_all exact ⟨_, rfl, rfl⟩) ?_)); intro w3 hF3 hz3) | ((with_reducible refine lst (by with_unfolding_all rfl) (wp_fapp1 T_u8 hF3 (Nat.le_refl _) (hF3.rd (i := 0) rfl : Rd _ _ _ 1 4 (([92,117,48,48] : List UInt8).map bv)) (by with_unfolding_all exact ⟨_, _, rfl, rfl, rfl⟩) (by simp; omega) ?_)); intro v4 w4 hF4 hz4) | ((with_reducible refine lst (by with_unfolding_all rfl) (wp_sidx Tryz.underlying9 (k := y.toNat / 16) (by first | exact hj1.out | exact hj2.out | omega) hx1.out (by with_unfolding_all exact ⟨_, _, _, rfl, rfl, rfl⟩) ?_))) | ((with_reducible refine lst (by with_unfolding_all rfl) (wp_sidx Tryz.underlying9 (k := y.toNat % 16) (by first | exact hj2.out | omega) hx2.out (by with_unfolding_all exact ⟨_, _, _, rfl, rfl, rfl⟩) ?_))) | ((with_reducible refine lst (by with_unfolding_all rfl) (wp_fbsl T_u8 hF4 (vs := [bv p]) (by with_unfolding_all rfl) (by with_unfolding_all rfl) (by with_unfolding_all rfl) (by decide) (by simp [bv, Value.cells]) ?_)); intro w5 g5 hF5 hz5; have hr5 : Rd w5 (· < w5.heap.size) (some ⟨g5, 0, none⟩) 1 1 ([p].map bv) := hF5.rdOwn0; replace hF5 : Fr _ _ w5 (Ent.bytes _ 5 (.slice (some ⟨g5, 0, none⟩) 1 1) [p] :: _) := hF5) | ((with_reducible refine lst (by with_unfolding_all rfl) (wp_fapp2 T_u8 hF5 (Nat.le_refl _) hr5 (by with_unfolding_all exact ⟨_, _, rfl, rfl, rfl⟩) (by simp; omega) ?_)); intro v6 w6 hF6 hz6) | ((with_reducible refine lst (by with_unfolding_all rfl) (wp_fbsl T_u8 hF6 (vs := [bv r]) (by with_unfolding_all rfl) (by with_unfolding_all rfl) (by with_unfolding_all rfl) (by decide) (by simp [bv, Value.cells]) ?_)); intro w7 g7 hF7 hz7; have hr7 : Rd w7 (· < w7.heap.size) (some ⟨g7, 0, none⟩) 1 1 ([r].map bv) := hF7.rdOwn0; replace hF7 : Fr _ _ w7 (Ent.bytes _ 5 (.slice (some ⟨g7, 0, none⟩) 1 1) [r] :: _) := hF7) | ((with_reducible refine lst (by with_unfolding_all rfl) (wp_fapp3 T_u8 hF7 (Nat.le_refl _) hr7 (by with_unfolding_all exact ⟨_, _, rfl, rfl, rfl⟩) (by simp; omega) ?_)); intro v8 w8 hF8 hz8))
       go_roundg (s.size - (j + 1))
       case rel => exact ⟨j + 1, U ++ [92, 117, 48, 48, p, r], by omega, box rfl, by go_num, hO2.out, hgo, by have h5 := hF8.tail.tail.tail; simp only [List.append_assoc, List.cons_append, List.nil_append] at h5; exact h5⟩
       case measure => have := hkf.out; omega
      ·rw [hc] at hgo hO2
       have d32 : decide ((y.toNat : Int) < 32) = false := decide_eq_false (by omega)
       replace h32 := box h32
       clear hc
       go_wp2_with (first | ((with_reducible refine lst (by with_unfolding_all rfl) (wp_sidx Tryz.underlying9 (k := j) rfl hy.out (by with_unfolding_all exact ⟨_, _, _, rfl, rfl, rfl⟩) ?_))) | ((with_reducible refine lst (by with_unfolding_all rfl) (wp_fbsl T_u8 hF (vs := [bv y]) (by with_unfolding_all rfl) (by with_unfolding_all rfl) (by with_unfolding_all rfl) (by decide) (by simp [bv, Value.cells]) ?_)); intro w2 g2 hF2 hz2; have hr2 : Rd w2 (· < w2.heap.size) (some ⟨g2, 0, none⟩) 1 1 ([y].map bv) := hF2.rdOwn0; replace hF2 : Fr _ _ w2 (Ent.bytes _ 5 (.slice (some ⟨g2, 0, none⟩) 1 1) [y] :: _) := hF2) | ((with_reducible refine lst (by with_unfolding_all rfl) (wp_fapp1 T_u8 hF2 (Nat.le_refl _) hr2 (by with_unfolding_all exact ⟨_, _, rfl, rfl, rfl⟩) (by omega) ?_)); intro v3 w3 hF3 hz3))
       go_roundg (s.size - (j + 1))
       case rel => exact ⟨j + 1, U ++ [y], by omega, box rfl, by go_num, hO2.out, hgo, hF3.tail⟩
       case measure => have := hkf.out; omega
  ·have hjs : s.size = j := by omega
   have hend : Box (out ++ jQuote s.data.toList = O ++ [34]) := box (by rw [hQ.out, List.drop_of_length_le (by rw [hsl.out]; omega)]; simp)
   obtain ⟨Ao, co, rfl, hco, hro⟩ := (hF.own (i := 0) rfl).arg
   clear hQ hkf
   go_wp2_with (first | ((with_reducible refine lst (by with_unfolding_all rfl) (wp_fbsl T_u8 hF (vs := [bv 34]) (by with_unfolding_all rfl) (by with_unfolding_all rfl) (by with_unfolding_all rfl) (by decide) (by simp [bv, Value.cells]) ?_)); intro w1 g1 hF1 hz1; have hr1 : Rd w1 (· < w1.heap.size) (some ⟨g1, 0, none⟩) 1 1 ([34].map bv) := hF1.rdOwn0; replace hF1 : Fr _ _ w1 (Ent.bytes _ 5 (.slice (some ⟨g1, 0, none⟩) 1 1) [34] :: _) := hF1) | ((with_reducible refine lst (by with_unfolding_all rfl) (wp_fapp1 T_u8 hF1 (Nat.le_refl _) hr1 (by with_unfolding_all exact ⟨_, _, rfl, rfl, rfl⟩) (by omega) ?_)); intro v2 w2 hF2 hz2))
   go_ret
   exact ⟨_, rfl, by rw [hend.out]; exact hF2.tail⟩
end Go.Proofs.YtlhicfpmlncomaaGreatDoor

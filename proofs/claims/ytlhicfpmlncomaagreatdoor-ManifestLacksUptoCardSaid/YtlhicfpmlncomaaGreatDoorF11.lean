/-
 Layer 8: the program's read, walked.
 Layer 8: errors.As at the program's own kind of error, walked (after the worked example of errors.As at a concrete target).
 Layer 6, plain law: a fault has a number. No program is named here.
 Layer 8: the program's Parse, walked.
 Layer 8: answers that the document fixes.
 Layer 8: the laws' From, and parts of To: notes, descriptors and documents laid anew.
 Layer 8: descriptors laid anew.
 Layer 8: documents laid anew: the laws' From and To.
 Layer 8: the document's text and put, walked: a member more, in the caller's frame.
 Layer 8, plain law: what is read is small.
 Layer 6: the walk of the program's Write.
 Layer 6, plain words: how many values a value has; which values are right, as the document counts it. No program is named here.
-/
import Derived.Test.YtlhicfpmlncomaaGreatDoorF10
import Derived.Test.YtlhicfpmlncomaaGreatDoorF02
import Derived.WalkKit
import Derived.LaidEql
import Derived.Stop.Asserts
import Derived.RowKitTokens
import Derived.Test.YtlhicfpmlncomaaGreatDoorF01
import Derived.Test.YtlhicfpmlncomaaGreatDoorF09
import Derived.Test.YtlhicfpmlncomaaGreatDoorF07
import Derived.Test.YtlhicfpmlncomaaGreatDoorF08
import Derived.Test.YtlhicfpmlncomaaGreatDoorF00
set_option linter.unusedSimpArgs false
set_option linter.unusedVariables false
namespace Go.Proofs.YtlhicfpmlncomaaGreatDoor
open Go.RowKit
theorem VRd.stay {w w' : World} {B : Nat} {v : JV} {cs : List Value} (h : VRd w (· < B) v cs) (hb : Below B w w') : VRd w' (· < B) v cs :=
 VRd.keep (fun _ hk => hk) (fun k hk => hb.block k hk) v h
theorem mReadL_go {ns : List (List UInt8)} {ks : List JV} {i : Nat} {s : List UInt8} {k : JV} {d : MDoc} {h : MGot} (hs : ns[i]? = some s) (hk : ks[i]? = some k) : mReadL d h (ns.drop i) (ks.drop i) = match rStep d s k with
  | .ok d' => mReadL d' (h.one s) (ns.drop (i + 1)) (ks.drop (i + 1))
  | .error e => .error e := by
 rw [List.drop_eq_getElem_cons (List.getElem?_eq_some_iff.1 hs).1, (List.getElem?_eq_some_iff.1 hs).2, List.drop_eq_getElem_cons (List.getElem?_eq_some_iff.1 hk).1, (List.getElem?_eq_some_iff.1 hk).2, mReadL, mStep_one]
 cases rStep d s k <;> rfl
theorem mReadL_end {ns : List (List UInt8)} {ks : List JV} {i : Nat} {d : MDoc} {h : MGot} (hk : ks.length ≤ i) : mReadL d h (ns.drop i) (ks.drop i) = if mWhole d h = true then .ok d else .error 80 := by
 rw [List.drop_of_length_le hk]
 cases ns.drop i <;> (rw [mReadL]; intros; rename_i h1 h2; cases h2)
theorem got_19 (h : MGot) : ((gotI h : Int) != 19) = !(h.v && (h.m && (!h.c && (!h.l && h.i)))) := by obtain ⟨a, b, c, d, e⟩ := h; cases a <;> cases b <;> cases c <;> cases d <;> cases e <;> rfl
theorem got_15 (h : MGot) : ((gotI h : Int) != 15) = !(h.v && (h.m && (h.c && (h.l && !h.i)))) := by obtain ⟨a, b, c, d, e⟩ := h; cases a <;> cases b <;> cases c <;> cases d <;> cases e <;> rfl
def docP : List (Nat × Nat) := [(0, 1), (1, 1), (2, 35), (37, 1), (38, 35), (73, 1), (74, 1)]
def mDc (r : MR MDoc) : MDoc := match r with
 | .ok d => d
 | .error _ => .zero
def MRd (w : World) (r : MR MDoc) (e : Ending) (w' : World) : Prop := ∃ cs es, e = .returned (.tuple #[.agg cs.toArray, mErr r]) ∧ VDoc (mDc r) cs es ∧ Fr [] w w' es
set_option maxRecDepth 20000 in
set_option maxHeartbeats 12800000 in
theorem mread_any (v : JV) (cs : List Value) (w : World) (hM : MaxAt w.heap.size w) (hv : VRd w (· < w.heap.size) v cs) (hob : JOb v) :
  Calls Tryz.prog 31 #[.agg cs.toArray] w (MRd w (mRead v)) := by
 obtain ⟨k, n, t, ns, ks⟩ := v
 rw [VRd] at hv
 obtain ⟨An, nn, cn, Ak, nk, ck, xs, hcn, hck, rfl, hrn, hrk, hvk⟩ := hv
 have hF0 := Fr.nil w
 have hkl := hvk.len
 rw [hrk.len] at hkl
 have hnl := hrn.len
 rw [List.length_map, Nat.mul_one] at hnl
 have hobj := hob.obj
 simp only [JV.kind, JV.names, JV.kids] at hobj
 by_cases hk : k = 6
 rotate_left
 ·have hj : Box (mRead (.mk k n t ns ks) = .error 80) := box (if_neg hk)
  have hq : ((k : Int) != 6) = true := by rw [bne_iff_ne]; exact hk
  replace hk := box hk
  clear hobj
  go_enter Tryz.func31, Tryz.ntmps31
  go_wp2_with (first | ((with_reducible refine lsx (wp_fbox hF0 (cs := (vlL k n ⟨t.toArray⟩ (.slice An nn cn) (.slice Ak nk ck))) rfl (by with_unfolding_all rfl) (by with_unfolding_all rfl) ?_)); intro w1 g1 hF1 hz1) | ((with_reducible refine lsx (wp_falloc hF1 (cs := doc0) (z := .agg (List.toArray (doc0))) rfl (by kernel_rfl) (by with_unfolding_all rfl) ?_)); intro w2 g2 hF2 hz2) | ((with_reducible refine lsx (wp_falloc hF2 (cs := doc0) (z := .agg (List.toArray (doc0))) rfl (by kernel_rfl) (by with_unfolding_all rfl) ?_)); intro w3 g3 hF3 hz3) | (with_reducible refine lsx (wp_fld2 hF3 uq3 rfl (by with_unfolding_all exact ⟨_, rfl, rfl⟩) rfl ?_)) | (with_reducible refine lsx (wp_fldA0 hF3 uq31 rfl (by with_unfolding_all exact ⟨_, rfl, rfl⟩) (ds := doc0) (by rw [doc0_len]; kernel_rfl) (take_all _) ?_)) | ((with_reducible refine lsx (wp_fstA1 hF3 (by with_unfolding_all exact ⟨_, _, rfl, rfl, rfl⟩) (by rw [doc0_len]; kernel_rfl) doc0_one (by first | exact Nat.le_of_eq (Nat.zero_add _) | (rw [doc0_len, doc0_len]; decide)) (spl_all (by first | rfl | (rw [doc0_len, doc0_len]))) ?_)); intro w4 hF4 hz4))
  exact bodyPost_ret (results_cellF2 rfl _ hF4 (i := 1) rfl rfl uq31 rfl (by rw [doc0_len]; kernel_rfl)) rfl (by
   unfold MRd
   rw [hj.out]
   exact ⟨_, _, rfl, VDoc.zero, hF4.tail.tail⟩)
 have hq : ((k : Int) != 6) = false := by rw [hk]; rfl
 have hnk : nk = ks.length := by omega
 have hnn : ns.length = nk := by rw [hnk]; exact (hobj hk).1
 have hkn : nk ≤ 1048576 := by rw [hnk]; exact hob.small.2.2
 have hkob := box (fun u hu => hob.kid (k := u) hu)
 simp only [JV.kids] at hkob
 obtain ⟨J, hJ0⟩ : ∃ J, J = mRead (.mk k n t ns ks) := ⟨_, rfl⟩
 have hJ : Box (J = mReadL .zero ⟨false, false, false, false, false⟩ (ns.drop 0) (ks.drop 0)) := box (by rw [hJ0, List.drop_zero, List.drop_zero]; exact if_pos hk)
 rw [← hJ0]
 have hnn2 : nn = nk := by omega
 subst hnn2
 replace hk := box hk
 replace hnk := box hnk
 replace hnn := box hnn
 replace hvk := box hvk
 clear hobj hkl hnl hJ0 hob
 go_enter Tryz.func31, Tryz.ntmps31
 go_wp2_with (first | ((with_reducible refine lsx (wp_fbox hF0 (cs := (vlL k n ⟨t.toArray⟩ (.slice An nn cn) (.slice Ak nn ck))) rfl (by with_unfolding_all rfl) (by with_unfolding_all rfl) ?_)); intro w1 g1 hF1 hz1) | ((with_reducible refine lsx (wp_falloc hF1 (cs := doc0) (z := .agg (List.toArray (doc0))) rfl (by kernel_rfl) (by with_unfolding_all rfl) ?_)); intro w2 g2 hF2 hz2) | ((with_reducible refine lsx (wp_falloc hF2 (cs := doc0) (z := .agg (List.toArray (doc0))) rfl (by kernel_rfl) (by with_unfolding_all rfl) ?_)); intro w3 g3 hF3 hz3) | (with_reducible refine lsx (wp_fld2 hF3 uq3 rfl (by with_unfolding_all exact ⟨_, rfl, rfl⟩) rfl ?_)) | (with_reducible refine lsx (wp_fld2 hF3 uq74 rfl (by with_unfolding_all exact ⟨_, rfl, rfl⟩) rfl ?_)))
 have hg3 : w.heap.size ≤ g3 := by
  rcases hF3.fresh 0 _ rfl _ rfl with h | h
  ·exact h
  ·simp at h
 clear hF0 hF1 hF2
 go_loopg [5, 20] nn (fun g hv iv wr => ∃ (i : Nat) (d : MDoc) (h : MGot) (cd : List Value) (TE : List Ent), i ≤ nn ∧ Box (g = nn - i) ∧ iv = .int .i64 (i : Int) ∧ hv = .int .i64 (gotI h) ∧ Box (VDoc d cd TE) ∧ Box (J = mReadL d h (ns.drop i) (ks.drop i)) ∧ Fr [] w wr (.blk g3 31 cd :: .blk g2 31 doc0 :: .blk g1 76 (vlL k n ⟨t.toArray⟩ (.slice An nn cn) (.slice Ak nn ck)) :: TE))
 case atStart => exact ⟨0, .zero, ⟨false, false, false, false, false⟩, _, [], by omega, box rfl, rfl, rfl, box VDoc.zero, hJ, hF3⟩
 case round =>
  clear hF3 hJ
  obtain ⟨i, d, h, cd, TE, hi, hgi, rfl, rfl, hD, hJ, hF⟩ := hrel
  have hkk : Box (_ = nn - i) := hgi
  clear hgi
  have hrk' := hrk.below hF.below
  have hdl := box hD.out.len
  have hdo := box hD.out.ones
  obtain ⟨cf, eg, sj, nt, hC, hE, hS, hN, hcd⟩ := hD.out
  by_cases hlt : i < nn
  ·obtain ⟨u, hu⟩ : ∃ u, ks[i]? = some u := ⟨ks[i]'(by rw [← hnk.out]; exact hlt), by simp⟩
   obtain ⟨s, hs⟩ : ∃ s, ns[i]? = some s := ⟨ns[i]'(by rw [hnn.out]; exact hlt), by simp⟩
   obtain ⟨ci, hci, hvi⟩ := hvk.out.at hu
   have hstep := box (hJ.out.trans (mReadL_go hs hu))
   have hss : Box ((ns.map strv)[i]? = some (.string ⟨s.toArray⟩)) := box (by rw [List.getElem?_map, hs]; rfl)
   have hcil := box hvi.len
   have hcio := box (VRd.ones hvi)
   have hub := hkob.out u (List.mem_of_getElem? hu)
   subst hcd
   have hmem := box (fun w' (gk : Nat) (hF : Fr [] w w' (.blk gk 76 ci :: .blk g3 31 (docL d.media d.type cf eg sj d.has nt) :: .blk g2 31 doc0 :: .blk g1 76 (vlL k n ⟨t.toArray⟩ (.slice An nn cn) (.slice Ak nn ck)) :: TE)) => mmember_any g3 w.heap.size d cf eg sj nt TE s u ci w' (hF.blk (i := 1) rfl) hg3 hF.below.size hC hE hS hN (hM.on hF.below) (hvi.stay hF.below) hub)
   replace hci := box hci
   clear hu hs hJ hC hE hS hN hub hvi
   go_upto_region 8 with (first | (with_reducible refine lsx (wp_indexAddr T_vals hrk' (by with_unfolding_all exact ⟨_, _, _, _, rfl, rfl, rfl⟩) (by omega) (by omega) ?_)) | (with_reducible refine lsx (wp_loadA hrk' uq76 rfl (by with_unfolding_all exact ⟨_, rfl, rfl⟩) (ds := ci) (by rw [hcil.out]; kernel_rfl) (by rw [hcil.out]; with_unfolding_all exact hci.out) ?_)) | ((with_reducible refine lsx (wp_falloc hF (cs := vl0) (z := .agg (List.toArray (vl0))) rfl (by kernel_rfl) (by with_unfolding_all rfl) ?_)); intro w22 g22 hF22 hz22) | ((with_reducible refine lsx (wp_fstA0 hF22 (by with_unfolding_all exact ⟨_, _, rfl, rfl, rfl⟩) (by rw [hcil.out]; kernel_rfl) hcio.out (by rw [hcil.out, vlL_len]; decide) (spl_all (by rw [hcil.out, vlL_len])) ?_)); intro w23 hF23 hz23))
   replace hmem := box (fun w' hF => hmem.out w' g22 hF)
   have hFd := hF23.drew
   clear hF hF22 hF23
   refine wp_region_held (S := fun w' => w'.heap[g22]? = some (.cells (List.toArray ci) 76 (0, 0)) ∧ w'.heap[g1]? = some (.cells (List.toArray (vlL k n ⟨t.toArray⟩ (.slice An nn cn) (.slice Ak nn ck))) 76 (0, 0)) ∧ Rd w' (· < w.heap.size) An 1 nn (ns.map strv)) (by kernel_rfl) ?_
   change wpAnyH _ _ _ _ _ _ _ _ (World.drew _)
   refine tkp 0 ⟨hFd.blk (i := 0) rfl, hFd.blk (i := 3) rfl, hrn.below hFd.below⟩ ?_
   (try simp only [zP, zQ, zS, zZ, zN])
   refine tky 1 (y := yi_fld (by with_unfolding_all rfl) (fun _ h => h.2.1) uq48 rfl (by with_unfolding_all exact ⟨_, rfl, rfl⟩) rfl) (s := ⟨hFd.blk (i := 0) rfl, hFd.blk (i := 3) rfl, hrn.below hFd.below⟩) (h := ?_)
   (try simp only [zP, zQ, zS, zZ, zN])
   refine tkp 2 ⟨hFd.blk (i := 0) rfl, hFd.blk (i := 3) rfl, hrn.below hFd.below⟩ ?_
   (try simp only [zP, zQ, zS, zZ, zN])
   refine tky 3 (y := yi_ix (by with_unfolding_all rfl) T_strs (fun h => hrn.some_ h) (k := i) (by with_unfolding_all exact ⟨_, _, _, _, rfl, rfl, rfl⟩) rfl (by omega)) (s := ⟨hFd.blk (i := 0) rfl, hFd.blk (i := 3) rfl, hrn.below hFd.below⟩) (h := ?_)
   (try simp only [zP, zQ, zS, zZ, zN])
   refine tky 4 (y := yi_ld (by with_unfolding_all rfl) (j := i * 1) (fun _ h => h.2.2) uq9 rfl (by with_unfolding_all exact ⟨_, rfl, rfl⟩) (by rw [Nat.mul_one]; exact hss.out)) (s := ⟨hFd.blk (i := 0) rfl, hFd.blk (i := 3) rfl, hrn.below hFd.below⟩) (h := ?_)
   (try simp only [zP, zQ, zS, zZ, zN])
   refine tky 5 (y := yi_fldA (by with_unfolding_all rfl) (fun _ h => h.1) uq76 rfl (by with_unfolding_all exact ⟨_, rfl, rfl⟩) (ds := ci) (by rw [hcil.out]; kernel_rfl) (take_all _)) (s := ⟨hFd.blk (i := 0) rfl, hFd.blk (i := 3) rfl, hrn.below hFd.below⟩) (h := ?_)
   (try simp only [zP, zQ, zS, zZ, zN])
   refine rdy1 6 (fun K hK => ?_)
   refine stp (by with_unfolding_all rfl) (wp_call Tryz.func66 rfl (by with_unfolding_all rfl) (by with_unfolding_all rfl) (by with_unfolding_all rfl) (hmem.out _ hFd) ?_)
   rintro e w41 ⟨cs41, es41, b41, rfl, hl41, ho41, hv41, hok41⟩
   refine ⟨_, rfl, ?_⟩
   have hF41 := hFd.putG (i := 1) rfl hv41
   simp only [List.set_cons_zero, List.set_cons_succ, List.cons_append] at hF41
   refine hK.out _ _ (⟨hF41.blk (i := 0) rfl, hF41.blk (i := 3) rfl, hrn.below hF41.below⟩) (fun _ => ?_)
   clear hK K
   (try simp only [zP, zQ, zS, zZ, zN])
   refine tkp 7 ⟨hF41.blk (i := 0) rfl, hF41.blk (i := 3) rfl, hrn.below hF41.below⟩ ?_
   (try simp only [zP, zQ, zS, zZ, zN])
   refine tkp 8 ⟨hF41.blk (i := 0) rfl, hF41.blk (i := 3) rfl, hrn.below hF41.below⟩ ?_
   (try simp only [zP, zQ, zS, zZ, zN])
   refine tkp 9 ⟨hF41.blk (i := 0) rfl, hF41.blk (i := 3) rfl, hrn.below hF41.below⟩ ?_
   (try simp only [zP, zQ, zS, zZ, zN])
   refine tkp 10 ⟨hF41.blk (i := 0) rfl, hF41.blk (i := 3) rfl, hrn.below hF41.below⟩ ?_
   (try simp only [zP, zQ, zS, zZ])
   refine tkp 11 ⟨hF41.blk (i := 0) rfl, hF41.blk (i := 3) rfl, hrn.below hF41.below⟩ ?_
   (try simp only [zP, zQ, zS, zZ])
   refine wpAnyH_done (by kernel_rfl) ?_ _
   cases hm : rStep d s u with
   | error ee =>
    rw [hm] at hstep
    simp only [] at hstep
    simp only [mErr]
    replace ho41 := box ho41
    replace hl41 := box hl41
    clear hok41 hv41
    go_wp2_with (first | (with_reducible refine lsx (wp_fbuild uq31 (z := .agg (List.toArray doc0)) (by kernel_rfl) (pl := docP) (by kernel_rfl) (cs := doc0) rfl (vs := []) (by with_unfolding_all rfl) (by with_unfolding_all rfl) ?_)) | ((with_reducible refine lsx (wp_fstA2 hF41 (by with_unfolding_all exact ⟨_, _, rfl, rfl, rfl⟩) (by rw [doc0_len]; kernel_rfl) doc0_one (by first | exact Nat.le_of_eq (Nat.zero_add _) | (rw [doc0_len, doc0_len]; decide)) (spl_all (by first | rfl | (rw [doc0_len, doc0_len]))) ?_)); intro w60 hF60 hz60))
    exact bodyPost_ret (results_cellF2 rfl _ hF60 (i := 2) rfl rfl uq31 rfl (by rw [doc0_len]; kernel_rfl)) rfl (by
     unfold MRd
     rw [hstep.out]
     exact ⟨_, _, rfl, VDoc.zero, hF60.tail.tail.tail.tail⟩)
   | ok d' =>
    rw [hm] at hstep
    simp only [] at hstep
    simp only [mErr]
    obtain ⟨hb, hD'⟩ := hok41 d' hm
    have hor := got_or h s
    rw [← hb] at hor
    replace hor := box hor
    replace hb := box hb
    replace hD' := box hD'
    clear hv41 hok41 hl41 ho41
    go_wp2_with fail
    go_roundg (nn - (i + 1))
    case rel => exact ⟨i + 1, d', h.one s, cs41, TE ++ es41, by omega, box rfl, by go_num, congrArg (Value.int .i64) hor.out, hD', hstep, hF41.tail⟩
    case measure => have := hkk.out; omega
  ·have hend := hJ.out.trans (mReadL_end (by rw [← hnk.out]; omega))
   obtain rfl : nn = i := by omega
   subst hcd
   have hzl := box doc0_len
   by_cases hix : d.media = sIndex
   ·have e1 : (d.media == [97, 112, 112, 108, 105, 99, 97, 116, 105, 111, 110, 47, 118, 110, 100, 46, 111, 99, 105, 46, 105, 109, 97, 103, 101, 46, 105, 110, 100, 101, 120, 46, 118, 49, 43, 106, 115, 111, 110]) = true := by rw [beq_iff_eq]; exact hix
    have hw : mWhole d h = (h.v && (h.m && (!h.c && (!h.l && h.i)))) := if_pos hix
    have h19 := got_19 h
    rw [← hw] at h19
    replace hix := box hix
    cases hww : mWhole d h with
    | true =>
     rw [hww] at h19 hend
     rw [if_pos rfl] at hend
     replace h19 : ((gotI h : Int) != 19) = false := h19
     replace hend := box hend
     clear hw hww
     go_wp2_with (first | (with_reducible refine lsx (wp_fld0 hF uq9 rfl (by with_unfolding_all exact ⟨_, rfl, rfl⟩) docL_m0 ?_)) | (with_reducible refine lsx (wp_fldA0 hF uq31 rfl (by with_unfolding_all exact ⟨_, rfl, rfl⟩) (ds := (docL d.media d.type cf eg sj d.has nt)) (by rw [hdl.out]; kernel_rfl) (take_all _) ?_)) | ((with_reducible refine lsx (wp_fstA1 hF (by with_unfolding_all exact ⟨_, _, rfl, rfl, rfl⟩) (by rw [hdl.out]; kernel_rfl) hdo.out (by rw [hdl.out, hzl.out]; decide) (spl_all (by rw [hdl.out, hzl.out])) ?_)); intro w60 hF60 hz60))
     exact bodyPost_ret (results_cellF2 rfl _ hF60 (i := 1) rfl rfl uq31 rfl (by rw [hdl.out]; kernel_rfl)) rfl (by
      unfold MRd
      rw [hend.out]
      exact ⟨_, _, rfl, hD.out, hF60.tail.tail.tail⟩)
    | false =>
     rw [hww] at h19 hend
     rw [if_neg (by decide)] at hend
     replace h19 : ((gotI h : Int) != 19) = true := h19
     replace hend := box hend
     clear hw hww
     go_wp2_with (first | (with_reducible refine lsx (wp_fld0 hF uq9 rfl (by with_unfolding_all exact ⟨_, rfl, rfl⟩) docL_m0 ?_)) | (with_reducible refine lsx (wp_fbuild uq31 (z := .agg (List.toArray doc0)) (by kernel_rfl) (pl := docP) (by kernel_rfl) (cs := doc0) rfl (vs := []) (by with_unfolding_all rfl) (by with_unfolding_all rfl) ?_)) | ((with_reducible refine lsx (wp_fstA1 hF (by with_unfolding_all exact ⟨_, _, rfl, rfl, rfl⟩) (by rw [doc0_len]; kernel_rfl) doc0_one (by first | exact Nat.le_of_eq (Nat.zero_add _) | (rw [doc0_len, doc0_len]; decide)) (spl_all (by first | rfl | (rw [doc0_len, doc0_len]))) ?_)); intro w60 hF60 hz60))
     exact bodyPost_ret (results_cellF2 rfl _ hF60 (i := 1) rfl rfl uq31 rfl (by rw [doc0_len]; kernel_rfl)) rfl (by
      unfold MRd
      rw [hend.out]
      exact ⟨_, _, rfl, VDoc.zero, hF60.tail.tail.tail⟩)
   ·have e1 : (d.media == [97, 112, 112, 108, 105, 99, 97, 116, 105, 111, 110, 47, 118, 110, 100, 46, 111, 99, 105, 46, 105, 109, 97, 103, 101, 46, 105, 110, 100, 101, 120, 46, 118, 49, 43, 106, 115, 111, 110]) = false := by rw [beq_eq_false_iff_ne]; exact hix
    have hw : mWhole d h = (h.v && (h.m && (h.c && (h.l && !h.i)))) := if_neg hix
    have h19 := got_15 h
    rw [← hw] at h19
    replace hix := box hix
    cases hww : mWhole d h with
    | true =>
     rw [hww] at h19 hend
     rw [if_pos rfl] at hend
     replace h19 : ((gotI h : Int) != 15) = false := h19
     replace hend := box hend
     clear hw hww
     go_wp2_with (first | (with_reducible refine lsx (wp_fld0 hF uq9 rfl (by with_unfolding_all exact ⟨_, rfl, rfl⟩) docL_m0 ?_)) | (with_reducible refine lsx (wp_fldA0 hF uq31 rfl (by with_unfolding_all exact ⟨_, rfl, rfl⟩) (ds := (docL d.media d.type cf eg sj d.has nt)) (by rw [hdl.out]; kernel_rfl) (take_all _) ?_)) | ((with_reducible refine lsx (wp_fstA1 hF (by with_unfolding_all exact ⟨_, _, rfl, rfl, rfl⟩) (by rw [hdl.out]; kernel_rfl) hdo.out (by rw [hdl.out, hzl.out]; decide) (spl_all (by rw [hdl.out, hzl.out])) ?_)); intro w60 hF60 hz60))
     exact bodyPost_ret (results_cellF2 rfl _ hF60 (i := 1) rfl rfl uq31 rfl (by rw [hdl.out]; kernel_rfl)) rfl (by
      unfold MRd
      rw [hend.out]
      exact ⟨_, _, rfl, hD.out, hF60.tail.tail.tail⟩)
    | false =>
     rw [hww] at h19 hend
     rw [if_neg (by decide)] at hend
     replace h19 : ((gotI h : Int) != 15) = true := h19
     replace hend := box hend
     clear hw hww
     go_wp2_with (first | (with_reducible refine lsx (wp_fld0 hF uq9 rfl (by with_unfolding_all exact ⟨_, rfl, rfl⟩) docL_m0 ?_)) | (with_reducible refine lsx (wp_fbuild uq31 (z := .agg (List.toArray doc0)) (by kernel_rfl) (pl := docP) (by kernel_rfl) (cs := doc0) rfl (vs := []) (by with_unfolding_all rfl) (by with_unfolding_all rfl) ?_)) | ((with_reducible refine lsx (wp_fstA1 hF (by with_unfolding_all exact ⟨_, _, rfl, rfl, rfl⟩) (by rw [doc0_len]; kernel_rfl) doc0_one (by first | exact Nat.le_of_eq (Nat.zero_add _) | (rw [doc0_len, doc0_len]; decide)) (spl_all (by first | rfl | (rw [doc0_len, doc0_len]))) ?_)); intro w60 hF60 hz60))
     exact bodyPost_ret (results_cellF2 rfl _ hF60 (i := 1) rfl rfl uq31 rfl (by rw [doc0_len]; kernel_rfl)) rfl (by
      unfold MRd
      rw [hend.out]
      exact ⟨_, _, rfl, VDoc.zero, hF60.tail.tail.tail⟩)
end Go.Proofs.YtlhicfpmlncomaaGreatDoor

namespace Go.Proofs.YtlhicfpmlncomaaGreatDoor
open Go.RowKit Go.Extern.Stop Go.Stop Go.Extern
theorem as_nil (t : Value) (w : World) :
  Calls Tryz.prog 32 #[.nilIface, t] w fun e w' => e = .returned (.bool false) ∧ w' = w := by
 go_enter Tryz.func32, Tryz.ntmps32
 go_wp2
 go_ret
 exact ⟨rfl, rfl⟩
theorem xvalueOfP (t : Addr) (w : World) : (ReflectliteValue.unpack (.iface 86 (.pointer (some t)))).run Tryz.prog w
  = .ok (.agg #[.pointer (some ⟨9, 86, none⟩), .pointer (some ⟨w.heap.size, 0, none⟩), .int .u64 150]) (w.alloc (.cells #[.pointer (some t)] 86)) := by kernel_rfl
theorem xtypeP (a : Addr) (w : World) : (ReflectliteValue.methodAny (ReflectliteValue.valueError "reflectlite.Value.Type" 0) (fun t _ _ _ => ReflectliteType.toType t) #[.agg #[.pointer (some ⟨9, 86, none⟩), .pointer (some a), .int .u64 150]]).run Tryz.prog w
  = .ok (.iface 177 (.agg #[.pointer (some ⟨9, 86, none⟩)])) w := by kernel_rfl
theorem xkindP (w : World) : ((ReflectliteType.abiMethod fun t => (fun a : Nat => Value.int IntKind.u8 (a : Int)) <$> Rtype.kind t) #[.pointer (some ⟨9, 86, none⟩)]).run Tryz.prog w = .ok (.int .u8 22) w := by kernel_rfl
theorem xkindE (w : World) : ((ReflectliteType.abiMethod fun t => (fun a : Nat => Value.int IntKind.u8 (a : Int)) <$> Rtype.kind t) #[.pointer (some ⟨9, 84, none⟩)]).run Tryz.prog w = .ok (.int .u8 25) w := by kernel_rfl
theorem xelemP (w : World) : (ReflectliteType.method ReflectliteType.elem #[.agg #[.pointer (some ⟨9, 86, none⟩)]]).run Tryz.prog w = .ok (.iface 177 (.agg #[.pointer (some ⟨9, 84, none⟩)])) w := by kernel_rfl
theorem ximplE (w : World) : (ReflectliteType.relation "Implements" ReflectliteType.implements_ #[.agg #[.pointer (some ⟨9, 84, none⟩)], .iface 177 (.agg #[.pointer (some ⟨9, 80, none⟩)])]).run Tryz.prog w = .ok (.bool true) w := by kernel_rfl
theorem xtypeOfE (v : Value) (w : World) : (ReflectliteType.typeOf #[.iface 84 v]).run Tryz.prog w = .ok (.iface 177 (.agg #[.pointer (some ⟨9, 84, none⟩)])) w := by kernel_rfl
theorem xassE (w : World) : (ReflectliteType.relation "AssignableTo" ReflectliteType.assignableTo #[.agg #[.pointer (some ⟨9, 84, none⟩)], .iface 177 (.agg #[.pointer (some ⟨9, 84, none⟩)])]).run Tryz.prog w = .ok (.bool true) w := by kernel_rfl
theorem xvalueOfE (e : Int) (w : World) : (ReflectliteValue.unpack (.iface 84 (.agg #[.int .i64 e]))).run Tryz.prog w
  = .ok (.agg #[.pointer (some ⟨9, 84, none⟩), .pointer (some ⟨w.heap.size, 0, none⟩), .int .u64 153]) (w.alloc (.cells #[.int .i64 e] 84)) := by kernel_rfl
theorem xelemOfP (w : World) : (Rtype.elem? 86).run Tryz.prog w = .ok (some 84) w := by kernel_rfl
theorem xmkE (p : Addr) (w : World) : (ReflectliteValue.mk 84 p ReflectliteValue.flagAddr).run Tryz.prog w = .ok (.agg #[.pointer (some ⟨9, 84, none⟩), .pointer (some p), .int .u64 409]) w := by kernel_rfl
theorem xpartsP (a : Addr) (w : World) : (ReflectliteValue.parts (.agg #[.pointer (some ⟨9, 86, none⟩), .pointer (some a), .int .u64 150])).run Tryz.prog w = .ok (some (86, a, 150)) w := by kernel_rfl
theorem xpartsEa (a : Addr) (w : World) : (ReflectliteValue.parts (.agg #[.pointer (some ⟨9, 84, none⟩), .pointer (some a), .int .u64 409])).run Tryz.prog w = .ok (some (84, a, 409)) w := by kernel_rfl
theorem xpartsE (a : Addr) (w : World) : (ReflectliteValue.parts (.agg #[.pointer (some ⟨9, 84, none⟩), .pointer (some a), .int .u64 153])).run Tryz.prog w = .ok (some (84, a, 153)) w := by kernel_rfl
theorem xdirE (w : World) : (Rtype.directlyAssignable 84 84).run Tryz.prog w = .ok true w := by kernel_rfl
theorem xsizeE (w : World) : (sizeOf 84).run Tryz.prog w = .ok 1 w := by kernel_rfl
theorem rlm_ (z : Sem Value) (f : TypeId → Addr → Nat → Nat → Sem Value) (v : Value) :
  ReflectliteValue.method z f #[v] = (do match ← ReflectliteValue.parts v with | none => z | some (t, a, fl) => f t a fl (fl % 32)) := rfl
theorem xisNilP (a p : Addr) (W : World) (ha : W.cell? a = some (.pointer (some p))) :
  (ReflectliteValue.method (ReflectliteValue.valueError "reflectlite.Value.IsNil" 0) ReflectliteValue.isNil #[.agg #[.pointer (some ⟨9, 86, none⟩), .pointer (some a), .int .u64 150]]).run Tryz.prog W = .ok (.bool false) W := by
 rw [rlm_]
 simp only [Sem.run_bind, xpartsP, Result.andThen]
 simp [ReflectliteValue.isNil, loadVar, isAgg, underlying, uq86, ha, Result.andThen]
theorem xmElem (h : Value) (w : World) (n : Nat) : (Go.method (n + 1) 177 (.agg #[h]) "Elem").run Tryz.prog w = .ok (196, .agg #[h]) w := by kernel_rfl
theorem xmImpl (h : Value) (w : World) (n : Nat) : (Go.method (n + 1) 177 (.agg #[h]) "Implements").run Tryz.prog w = .ok (197, .agg #[h]) w := by kernel_rfl
theorem xmAss (h : Value) (w : World) (n : Nat) : (Go.method (n + 1) 177 (.agg #[h]) "AssignableTo").run Tryz.prog w = .ok (194, .agg #[h]) w := by kernel_rfl
theorem xmKind (h : Value) (w : World) (n : Nat) : (Go.method (n + 1) 177 (.agg #[h]) "Kind").run Tryz.prog w = .ok (185, h) w := by kernel_rfl
theorem xelemVP (a p : Addr) (W : World) (ha : W.cell? a = some (.pointer (some p))) :
  (ReflectliteValue.method (ReflectliteValue.valueError "reflectlite.Value.Elem" 0) ReflectliteValue.elem #[.agg #[.pointer (some ⟨9, 86, none⟩), .pointer (some a), .int .u64 150]]).run Tryz.prog W
   = .ok (.agg #[.pointer (some ⟨9, 84, none⟩), .pointer (some p), .int .u64 409]) W := by
 rw [rlm_]
 simp only [Sem.run_bind, xpartsP, Result.andThen]
 simp [ReflectliteValue.elem, loadVar, isAgg, underlying, uq86, ha, Result.andThen, xelemOfP, xmkE]
theorem rls_ (v x : Value) : ReflectliteValue.set #[v, x] = (do
  let (some (dst, a, fl), some (src, b, _)) := (← ReflectliteValue.parts v, ← ReflectliteValue.parts x)
   | unsupported (.noEntry "extern/(internal/reflectlite.Value).Set.zeroValue")
  if fl / ReflectliteValue.flagAddr % 2 == 0 then unsupported (.noEntry "extern/(internal/reflectlite.Value).Set.unaddressable")
  let val ← loadVar src b
  if ← Rtype.directlyAssignable dst src then storeVar dst a val
  else if ← Rtype.implements dst src then
   if (← Rtype.kind src) == 20 then
    match val with
    | .nilIface => unsupported (.noEntry "extern/reflectlite: a nil value of one interface type handed on as a value of another")
    | _ => storeVar dst a val
   else storeVar dst a (.iface src val)
  else panicString ("reflectlite.Set: value of type " ++ (← Rtype.spelt src) ++ " is not assignable to type " ++ (← Rtype.spelt dst))
  pure (.tuple #[])) := rfl
theorem xset {X : List Nat} {w0 W : World} {es : List Ent} (hF : Fr X w0 W es) {i j gt gb : Nat} {old : Value} {e : Int} (hi : es[i]? = some (.blk gt 84 [old])) (hj : es[j]? = some (.blk gb 84 [.int .i64 e])) :
  ∃ W2, (ReflectliteValue.set #[.agg #[.pointer (some ⟨9, 84, none⟩), .pointer (some ⟨gt, 0, none⟩), .int .u64 409], .agg #[.pointer (some ⟨9, 84, none⟩), .pointer (some ⟨gb, 0, none⟩), .int .u64 153]]).run Tryz.prog W = .ok (.tuple #[]) W2 ∧ Fr X w0 W2 (es.set i (.blk gt 84 [.int .i64 e])) := by
 have hld := run_loadF (P := Tryz.prog) hF hj uq84 rfl (by kernel_rfl)
 obtain ⟨hr, hF'⟩ := run_storeF (P := Tryz.prog) hF hi (off := 0) (ds := [.int .i64 e]) (by simp) (by simp; rfl)
 refine ⟨_, ?_, hF'⟩
 rw [rls_]
 simp only [Sem.run_bind, xpartsEa, xpartsE, Result.andThen]
 simp [ReflectliteValue.flagAddr, hld, Result.andThen, xdirE, storeVar, xsizeE, Value.cells, hr]
set_option maxRecDepth 20000 in
set_option maxHeartbeats 4000000 in
theorem xas_hit {X : List Nat} {w0 w : World} {es : List Ent} (hF : Fr X w0 w es) {i gt : Nat} {old : Value} (e : Int) (hi : es[i]? = some (.blk gt 84 [old])) (hg : w.cell? ⟨0, 0, none⟩ = some (.iface 177 (.agg #[.pointer (some ⟨9, 80, none⟩)]))) :
  Calls Tryz.prog 32 #[.iface 84 (.agg #[.int .i64 e]), .iface 86 (.pointer (some ⟨gt, 0, none⟩))] w fun ev w' => ev = .returned (.bool true) ∧ Fr X w0 w' (es.set i (.blk gt 84 [.int .i64 e])) := by
 have hF1 := hF.alloc 86 [.pointer (some ⟨gt, 0, none⟩)]
 have hF2 := hF1.alloc 135 [.pointer (some ⟨9, 86, none⟩), .pointer (some ⟨w.heap.size, 0, none⟩), .int .u64 150]
 have hF3 := hF2.alloc 135 [.pointer (some ⟨9, 86, none⟩), .pointer (some ⟨w.heap.size, 0, none⟩), .int .u64 150]
 have hF4 := hF3.alloc 84 [.int .i64 e]
 obtain ⟨W2, st, hF5⟩ := xset hF4 (i := i + 4) (j := 0) hi rfl
 have hsz : (((w.alloc (.cells ([.pointer (some ⟨gt, 0, none⟩)] : List Value).toArray 86)).alloc (.cells ([.pointer (some ⟨9, 86, none⟩), .pointer (some ⟨w.heap.size, 0, none⟩), .int .u64 150] : List Value).toArray 135)).alloc (.cells ([.pointer (some ⟨9, 86, none⟩), .pointer (some ⟨w.heap.size, 0, none⟩), .int .u64 150] : List Value).toArray 135)).heap.size = w.heap.size + 1 + 1 + 1 := by simp
 rw [hsz] at st
 have hF6 : Fr X w0 W2 (es.set i (.blk gt 84 [.int .i64 e])) := hF5.tail.tail.tail.tail
 have h67 := @run_callFunc_extern Tryz.prog 67 _ (fun args => ReflectliteValue.unpack (args.getD 0 (.tuple #[]))) Tryz.func67 (by kernel_rfl) (by kernel_rfl) (by kernel_rfl) (by kernel_rfl)
 have h68 := @run_callFunc_extern Tryz.prog 68 _ (ReflectliteValue.methodAny (ReflectliteValue.valueError "reflectlite.Value.Type" 0) (fun t _ _ _ => ReflectliteType.toType t)) Tryz.func68 (by kernel_rfl) (by kernel_rfl) (by kernel_rfl) (by kernel_rfl)
 have h69 := @run_callFunc_extern Tryz.prog 69 _ (ReflectliteValue.method (ReflectliteValue.valueError "reflectlite.Value.IsNil" 0) ReflectliteValue.isNil) Tryz.func69 (by kernel_rfl) (by kernel_rfl) (by kernel_rfl) (by kernel_rfl)
 have h185 := @run_callFunc_extern Tryz.prog 185 _ (ReflectliteType.abiMethod fun t => do pure (.int .u8 (← Rtype.kind t))) Tryz.func185 (by kernel_rfl) (by kernel_rfl) (by kernel_rfl) (by kernel_rfl)
 have h196 := @run_callFunc_extern Tryz.prog 196 _ (ReflectliteType.method ReflectliteType.elem) Tryz.func196 (by kernel_rfl) (by kernel_rfl) (by kernel_rfl) (by kernel_rfl)
 have h197 := @run_callFunc_extern Tryz.prog 197 _ (ReflectliteType.relation "Implements" ReflectliteType.implements_) Tryz.func197 (by kernel_rfl) (by kernel_rfl) (by kernel_rfl) (by kernel_rfl)
 have h95 := @run_callFunc_extern Tryz.prog 95 _ (ReflectliteType.typeOf) Tryz.func95 (by kernel_rfl) (by kernel_rfl) (by kernel_rfl) (by kernel_rfl)
 have h194 := @run_callFunc_extern Tryz.prog 194 _ (ReflectliteType.relation "AssignableTo" ReflectliteType.assignableTo) Tryz.func194 (by kernel_rfl) (by kernel_rfl) (by kernel_rfl) (by kernel_rfl)
 have h96 := @run_callFunc_extern Tryz.prog 96 _ (ReflectliteValue.method (ReflectliteValue.valueError "reflectlite.Value.Elem" 0) ReflectliteValue.elem) Tryz.func96 (by kernel_rfl) (by kernel_rfl) (by kernel_rfl) (by kernel_rfl)
 have h97 := @run_callFunc_extern Tryz.prog 97 _ (ReflectliteValue.set) Tryz.func97 (by kernel_rfl) (by kernel_rfl) (by kernel_rfl) (by kernel_rfl)
 have tO := xtypeOfE
 have mA := xmAss
 have aE := xassE
 have vE := xvalueOfE
 have fP := xvalueOfP
 have tP := xtypeP
 have mK := xmKind
 have mE := xmElem
 have mI := xmImpl
 have kP := xkindP
 have kE := xkindE
 have eP := xelemP
 have iE := ximplE
 have hlt : 0 < w.heap.size := by
  rcases Nat.eq_zero_or_pos w.heap.size with h0 | h
  ·simp [World.cell?, h0] at hg
  ·exact h
 have n8 := xisNilP ⟨w.heap.size, 0, none⟩ ⟨gt, 0, none⟩ ((w.alloc (.cells #[.pointer (some ⟨gt, 0, none⟩)] 86)).alloc (.cells #[.pointer (some ⟨9, 86, none⟩), .pointer (some ⟨w.heap.size, 0, none⟩), .int .u64 150] 135)) (by simp)
 have hg2 : ((w.alloc (.cells #[.pointer (some ⟨gt, 0, none⟩)] 86)).alloc (.cells #[.pointer (some ⟨9, 86, none⟩), .pointer (some ⟨w.heap.size, 0, none⟩), .int .u64 150] 135)).cell? ⟨0, 0, none⟩ = some (.iface 177 (.agg #[.pointer (some ⟨9, 80, none⟩)])) := by
  rw [World.cell?_alloc_lt _ _ ⟨0, 0, none⟩ (by simp), World.cell?_alloc_lt _ _ ⟨0, 0, none⟩ hlt]; exact hg
 have el := xelemVP ⟨w.heap.size, 0, none⟩ ⟨gt, 0, none⟩ (((w.alloc (.cells #[.pointer (some ⟨gt, 0, none⟩)] 86)).alloc (.cells #[.pointer (some ⟨9, 86, none⟩), .pointer (some ⟨w.heap.size, 0, none⟩), .int .u64 150] 135)).alloc (.cells #[.pointer (some ⟨9, 86, none⟩), .pointer (some ⟨w.heap.size, 0, none⟩), .int .u64 150] 135)) (by rw [World.cell?_alloc_lt _ _ ⟨w.heap.size, 0, none⟩ (by simp; omega)]; simp)
 clear hF hF1 hF2 hF3 hF4 hF5
 replace hF6 := box hF6
 go_enter Tryz.func32, Tryz.ntmps32
 go_wp2
 refine wp_loop_rounds 1 ?_
 rw [rounds_succ]
 go_wp2
 go_ret
 exact ⟨rfl, hF6.out⟩
end Go.Proofs.YtlhicfpmlncomaaGreatDoor

namespace Go.Proofs.YtlhicfpmlncomaaGreatDoor
def JEr {α : Type} (r : JR α) : Prop := ∀ x, r = .error x → x.2 ≠ 0
theorem JEr.ok {α : Type} {v : α} : JEr (.ok v) := fun _ h => by cases h
theorem JEr.err {α : Type} {p e : Nat} (h : e ≠ 0) : JEr (.error (p, e) : JR α) := fun _ h' => by injection h' with h'; subst h'; exact h
theorem JEr.up {α β : Type} {r : JR α} {x : Nat × Nat} (h : JEr r) (hx : r = .error x) : JEr (.error x : JR β) := fun y h' => by injection h' with h'; subst h'; exact h _ hx
theorem jNext_er (b : List UInt8) (p : Nat) : JEr (jNext b p) := by
 unfold jNext
 split
 ·exact .err (by decide)
 ·exact .ok
theorem jWord_er (b : List UInt8) : ∀ (w : List UInt8) (p : Nat), JEr (jWord b w p)
 | [], p => .ok
 | c :: w, p => by
  rw [jWord]
  split
  ·exact .err (by decide)
  ·split
   ·exact jWord_er b w _
   ·exact .err (by decide)
theorem jNumber_er (b : List UInt8) (p : Nat) : JEr (jNumber b p) := by
 unfold jNumber
 simp only []
 split
 ·exact .err (by decide)
 ·exact .ok
theorem jUnit_er (b : List UInt8) (s : Nat) : ∀ (k n p : Nat), JEr (jUnit b s k n p)
 | 0, _, _ => .ok
 | k + 1, n, p => by
  rw [jUnit]
  split
  ·exact .err (by decide)
  ·split
   ·exact .err (by decide)
   ·exact jUnit_er b s k _ _
theorem jEscape_er (b : List UInt8) (p : Nat) : JEr (jEscape b p) := by
 unfold jEscape
 split
 ·exact .err (by decide)
 rename_i c _
 by_cases h1 : c = 34 ∨ c = 92 ∨ c = 47
 ·rw [if_pos h1]; exact .ok
 rw [if_neg h1]
 by_cases h2 : c = 98
 ·rw [if_pos h2]; exact .ok
 rw [if_neg h2]
 by_cases h2 : c = 102
 ·rw [if_pos h2]; exact .ok
 rw [if_neg h2]
 by_cases h2 : c = 110
 ·rw [if_pos h2]; exact .ok
 rw [if_neg h2]
 by_cases h2 : c = 114
 ·rw [if_pos h2]; exact .ok
 rw [if_neg h2]
 by_cases h2 : c = 116
 ·rw [if_pos h2]; exact .ok
 rw [if_neg h2]
 by_cases h2 : c = 117
 ·rw [if_pos h2]
  split
  ·rename_i h; exact (jUnit_er _ _ _ _ _).up h
  split
  ·split
   ·exact .err (by decide)
   split
   ·exact .err (by decide)
   split
   ·exact .err (by decide)
   split
   ·exact .err (by decide)
   split
   ·rename_i h; exact (jUnit_er _ _ _ _ _).up h
   split
   ·exact .ok
   ·exact .err (by decide)
  ·split
   ·exact .err (by decide)
   ·exact .ok
 ·rw [if_neg h2]; exact .err (by decide)
theorem jTextL_er (b : List UInt8) : ∀ (f p : Nat) (out : List UInt8), JEr (jTextL b f p out)
 | 0, _, _ => .err (by decide)
 | f + 1, p, out => by
  rw [jTextL]
  repeat' split
  all_goals first
   | exact .ok
   | exact .err (by decide)
   | exact (jEscape_er _ _).up (by assumption)
   | exact jTextL_er b f _ _
theorem jText_er (b : List UInt8) (p : Nat) : JEr (jText b p) := by
 unfold jText
 split
 ·exact (jWord_er _ _ _).up (by assumption)
 ·exact jTextL_er _ _ _ _
theorem jName_er (b : List UInt8) (ns : List (List UInt8)) (p : Nat) : JEr (jName b ns p) := by
 unfold jName
 repeat' split
 all_goals first
  | exact .ok
  | exact .err (by decide)
  | exact (jText_er _ _).up (by assumption)
  | exact (jWord_er _ _ _).up (by assumption)
theorem jManyL_er (b : List UInt8) (kind : Int) (fin : UInt8) {val : Nat → Nat → JR (JV × Nat × Nat)} (hv : ∀ p m, JEr (val p m)) : ∀ (f p m : Nat) (ns : List (List UInt8)) (ks : List JV), JEr (jManyL b kind fin val f p m ns ks)
 | 0, _, _, _, _ => .err (by decide)
 | f + 1, p, m, ns, ks => by
  rw [jManyL]
  have hn : JEr (if kind = 6 then jName b ns p else .ok ([], p)) := by
   split
   ·exact jName_er _ _ _
   ·exact .ok
  split
  ·exact hn.up (by assumption)
  split
  ·exact (hv _ _).up (by assumption)
  split
  ·exact (jNext_er _ _).up (by assumption)
  split
  ·exact .ok
  split
  ·exact (jWord_er _ _ _).up (by assumption)
  ·exact jManyL_er b kind fin hv f _ _ _ _
theorem jMany_er (b : List UInt8) (kind : Int) (fin : UInt8) {val : Option (Nat → Nat → JR (JV × Nat × Nat))} (hv : ∀ f, val = some f → ∀ p m, JEr (f p m)) (p m : Nat) : JEr (jMany b kind fin val p m) := by
 unfold jMany
 split
 ·exact .err (by decide)
 ·split
  ·exact (jNext_er _ _).up (by assumption)
  ·split
   ·exact .ok
   ·exact jManyL_er b kind fin (hv _ rfl) _ _ _ _ _
theorem jLit_er (b w : List UInt8) (v : JV) (p m : Nat) : JEr (jLit b w v p m) := by
 unfold jLit
 split
 ·exact (jWord_er _ _ _).up (by assumption)
 ·exact .ok
theorem jValueW_er (b : List UInt8) {val : Option (Nat → Nat → JR (JV × Nat × Nat))} (hv : ∀ f, val = some f → ∀ p m, JEr (f p m)) (p m : Nat) : JEr (jValueW b val p m) := by
 unfold jValueW
 split
 ·exact .err (by decide)
 repeat' split
 all_goals first
  | exact .ok
  | exact .err (by decide)
  | exact jLit_er _ _ _ _ _
  | exact (jNumber_er _ _).up (by assumption)
  | exact (jText_er _ _).up (by assumption)
  | exact jMany_er _ _ _ hv _ _
theorem jValue_er (b : List UInt8) : ∀ (d p m : Nat), JEr (jValue b d p m)
 | 0, p, m => by rw [jValue]; exact jValueW_er b (fun f h => by cases h) p m
 | d + 1, p, m => by rw [jValue]; exact jValueW_er b (fun f h => by injection h with h; subst h; exact jValue_er b d) p m
theorem jParse_er (b : List UInt8) : JEr (jParse b) := by
 unfold jParse
 split
 ·exact .err (by decide)
 ·split
  ·exact (jValue_er _ _ _ _).up (by assumption)
  ·split
   ·exact .err (by decide)
   ·exact .ok
end Go.Proofs.YtlhicfpmlncomaaGreatDoor

namespace Go.Proofs.YtlhicfpmlncomaaGreatDoor
open Go.RowKit
theorem MaxAt.up {B B' : Nat} {w : World} (h : MaxAt B w) (hb : B ≤ B') : MaxAt B' w := fun w' h2 => h w' (h2.mono hb)
def ErrAt (B : Nat) (w : World) : Prop := ∀ w', Below B w w' → w'.cell? ⟨0, 0, none⟩ = some (.iface 177 (.agg #[.pointer (some ⟨9, 80, none⟩)]))
theorem ErrAt.on {B : Nat} {w w' : World} (h : ErrAt B w) (hb : Below B w w') : ErrAt B w' := fun w'' h2 => h w'' (hb.trans h2)
theorem ErrAt.up {B B' : Nat} {w : World} (h : ErrAt B w) (hb : B ≤ B') : ErrAt B' w := fun w' h2 => h w' (h2.mono hb)
structure MLibs (B : Nat) (w : World) : Prop where
 j : LibsAt B w
 m : MaxAt B w
 e : ErrAt B w
theorem MLibs.on {B : Nat} {w w' : World} (h : MLibs B w) (hb : Below B w w') : MLibs B w' := ⟨h.j.on hb, h.m.on hb, h.e.on hb⟩
theorem MLibs.up {B B' : Nat} {w : World} (h : MLibs B w) (hb : B ≤ B') : MLibs B' w := ⟨h.j.up hb, h.m.up hb, h.e.up hb⟩
theorem VT.rdS {v : JV} {cs : List Value} {es' es : List Ent} {X : List Nat} {w0 w : World} (h : VT v cs es') (hF : Fr X w0 w es) (hs : ∀ e ∈ es', e ∈ es) : VRd w (· < w.heap.size) v cs :=
 VT.rd v h fun e he => by
  obtain ⟨i, hi⟩ := List.mem_iff_getElem?.1 (hs e he)
  exact ⟨hF.holds i e hi, fun b hb => Ent.lt (hF.holds i e hi) hb⟩
def mCode {α : Type} (r : MR α) : Nat := match r with
 | .ok _ => 0
 | .error e => e
def MPs (w : World) (r : MR MDoc) (e : Ending) (w' : World) : Prop := ∃ cs es, e = .returned (.tuple #[.agg cs.toArray, .int .i64 (mCode r : Int)]) ∧ VDoc (mDc r) cs es ∧ Fr [] w w' es
set_option maxRecDepth 20000 in
set_option maxHeartbeats 6400000 in
theorem mparse_any (A : Option Addr) (n c : Nat) (b : List UInt8) (w : World) (hL : MLibs w.heap.size w) (hnc : n ≤ c) (hn47 : n ≤ 140737488355328) (hr : Rd w (· < w.heap.size) A 1 n (b.map bv)) :
  Calls Tryz.prog 11 #[.slice A n c] w (MPs w (mParse b)) := by
 have hF0 := Fr.nil w
 have hJ : mParse b = match jParse b with
  | .ok v => mRead v
  | .error x => .error x.2 := rfl
 have hpa := box (fun w' (es : List Ent) (hF : Fr [] w w' es) => parse_F hF (hL.j.on hF.below) hF.below.size hnc hn47 (hr.on hF.below))
 replace hn47 := box hn47
 cases hj : jParse b with
 | error x =>
  have hx2 := jParse_er b x hj
  rw [hj] at hJ
  simp only [] at hJ
  have hq : ((x.2 : Int) != 0) = true := by rw [bne_iff_ne]; omega
  have hpa' := hpa.out
  unfold ParseEndF at hpa'
  rw [hj] at hpa'
  simp only [] at hpa'
  replace hpa' := box hpa'
  replace hJ := box hJ
  clear hpa hj hx2
  go_enter Tryz.func11, Tryz.ntmps11
  go_wp2_with (first | ((with_reducible refine lsx (wp_falloc hF0 (cs := doc0) (z := .agg (List.toArray (doc0))) rfl (by kernel_rfl) (by with_unfolding_all rfl) ?_)); intro w1 g1 hF1 hz1))
  refine (hpa'.out _ _ hF1).mono ?_
  rintro e w2 ⟨rfl, hF2⟩
  clear hpa'
  go_wp2_with (first | ((with_reducible refine lsx (wp_falloc hF2 (cs := vl0) (z := .agg (List.toArray (vl0))) rfl (by kernel_rfl) (by with_unfolding_all rfl) ?_)); intro w3 g3 hF3 hz3) | ((with_reducible refine lsx (wp_fstA0 hF3 (by with_unfolding_all exact ⟨_, _, rfl, rfl, rfl⟩) (by rw [vlL_len]; kernel_rfl) vlL_one vlL_fit vlL_spl ?_)); intro w4 hF4 hz4) | (with_reducible refine lsx (wp_fbuild uq31 (z := .agg (List.toArray doc0)) (by kernel_rfl) (pl := docP) (by kernel_rfl) (cs := doc0) rfl (vs := []) (by with_unfolding_all rfl) (by with_unfolding_all rfl) ?_)) | ((with_reducible refine lsx (wp_fstA1 hF4 (by with_unfolding_all exact ⟨_, _, rfl, rfl, rfl⟩) (by rw [doc0_len]; kernel_rfl) doc0_one (Nat.le_of_eq (Nat.zero_add _)) (spl_all rfl) ?_)); intro w5 hF5 hz5))
  exact bodyPost_ret (results_cellF2 rfl _ hF5 (i := 1) rfl rfl uq31 rfl (by rw [doc0_len]; kernel_rfl)) rfl (by
   unfold MPs
   rw [hJ.out]
   exact ⟨_, _, rfl, VDoc.zero, hF5⟩)
 | ok v =>
  rw [hj] at hJ
  simp only [] at hJ
  have hob := jParse_ob hj
  have hpa' := hpa.out
  unfold ParseEndF at hpa'
  rw [hj] at hpa'
  simp only [] at hpa'
  replace hpa' := box hpa'
  clear hpa hj
  obtain ⟨R, hR⟩ : ∃ R, R = mRead v := ⟨_, rfl⟩
  rw [← hR] at hJ
  replace hJ := box hJ
  go_enter Tryz.func11, Tryz.ntmps11
  go_wp2_with (first | ((with_reducible refine lsx (wp_falloc hF0 (cs := doc0) (z := .agg (List.toArray (doc0))) rfl (by kernel_rfl) (by with_unfolding_all rfl) ?_)); intro w1 g1 hF1 hz1))
  refine (hpa'.out _ _ hF1).mono ?_
  rintro e w2 ⟨cs, es, rfl, hvt, hF2'⟩
  have hF2 := hF2'.perm (es' := .blk g1 31 doc0 :: es) List.perm_append_comm
  have hvl := box hvt.len
  have hvo := box hvt.one
  replace hvt := box hvt
  clear hpa' hF2'
  go_wp2_with (first | ((with_reducible refine lsx (wp_falloc hF2 (cs := vl0) (z := .agg (List.toArray (vl0))) rfl (by kernel_rfl) (by with_unfolding_all rfl) ?_)); intro w3 g3 hF3 hz3) | ((with_reducible refine lsx (wp_fstA0 hF3 (by with_unfolding_all exact ⟨_, _, rfl, rfl, rfl⟩) (by rw [hvl.out]; kernel_rfl) hvo.out (by rw [hvl.out]; decide) (spl_all (by rw [hvl.out, vlL_len])) ?_)); intro w4 hF4 hz4) | (with_reducible refine lsx (wp_fldA0 hF4 uq76 rfl (by with_unfolding_all exact ⟨_, rfl, rfl⟩) (ds := cs) (by rw [hvl.out]; kernel_rfl) (take_all _) ?_)))
  have hrd := mread_any v cs w4 ((hL.on hF4.below).up hF4.below.size).m (hvt.out.rdS hF4 (by intro e he; simp [he])) hob
  rw [← hR] at hrd
  replace hrd := box hrd
  clear hR hob
  refine hrd.out.mono ?_
  rintro e w5 ⟨cd, ed, rfl, hD, h5⟩
  have hF5 := hF4.joinR h5
  simp only [List.cons_append] at hF5
  have hdl := box hD.len
  have hdo := box hD.ones
  clear hrd h5
  cases R with
  | ok d =>
   simp only [mErr]
   replace hD := box hD
   go_wp2_with (first | ((with_reducible refine lsx (wp_falloc hF5 (cs := doc0) (z := .agg (List.toArray (doc0))) rfl (by kernel_rfl) (by with_unfolding_all rfl) ?_)); intro w6 g6 hF6 hz6) | ((with_reducible refine lsx (wp_fstA0 hF6 (by with_unfolding_all exact ⟨_, _, rfl, rfl, rfl⟩) (by rw [hdl.out]; kernel_rfl) hdo.out (by rw [hdl.out, doc0_len]; decide) (spl_all (by rw [hdl.out, doc0_len])) ?_)); intro w7 hF7 hz7) | ((with_reducible refine lsx (wp_falloc hF7 (cs := [.int .i64 0]) (z := .agg (List.toArray ([.int .i64 0]))) rfl (by kernel_rfl) (by with_unfolding_all rfl) ?_)); intro w8 g8 hF8 hz8))
   refine (as_nil _ _).mono ?_
   rintro e w9 ⟨rfl, rfl⟩
   go_wp2_with (first | (with_reducible refine lsx (wp_fldA1 hF8 uq31 rfl (by with_unfolding_all exact ⟨_, rfl, rfl⟩) (ds := cd) (by rw [hdl.out]; kernel_rfl) (take_all _) ?_)) | ((with_reducible refine lsx (wp_fstA3 hF8 (by with_unfolding_all exact ⟨_, _, rfl, rfl, rfl⟩) (by rw [hdl.out]; kernel_rfl) hdo.out (by rw [hdl.out, doc0_len]; decide) (spl_all (by rw [hdl.out, doc0_len])) ?_)); intro w10 hF10 hz10))
   exact bodyPost_ret (results_cellF2 rfl _ hF10 (i := 3) rfl rfl uq31 rfl (by rw [hdl.out]; kernel_rfl)) rfl (by
    unfold MPs
    rw [hJ.out]
    exact ⟨_, _, rfl, hD.out.mono (fun _ h => by simp [h]), hF10⟩)
  | error ee =>
   simp only [mErr]
   clear hD
   go_wp2_with (first | ((with_reducible refine lsx (wp_falloc hF5 (cs := doc0) (z := .agg (List.toArray (doc0))) rfl (by kernel_rfl) (by with_unfolding_all rfl) ?_)); intro w6 g6 hF6 hz6) | ((with_reducible refine lsx (wp_fstA0 hF6 (by with_unfolding_all exact ⟨_, _, rfl, rfl, rfl⟩) (by rw [hdl.out]; kernel_rfl) hdo.out (by rw [hdl.out, doc0_len]; decide) (spl_all (by rw [hdl.out, doc0_len])) ?_)); intro w7 hF7 hz7) | ((with_reducible refine lsx (wp_falloc hF7 (cs := [.int .i64 0]) (z := .agg (List.toArray ([.int .i64 0]))) rfl (by kernel_rfl) (by with_unfolding_all rfl) ?_)); intro w8 g8 hF8 hz8))
   have hE := hL.e _ hF8.below
   refine (xas_hit hF8 (i := 0) (ee : Int) rfl hE).mono ?_
   rintro e w9 ⟨rfl, hF9⟩
   simp only [List.set_cons_zero] at hF9
   clear hE
   go_upto_region 7 with (fail)
   have hFd := hF9.drew
   clear hF9 hF8 hF7 hF6 hF5
   refine wp_region_held (S := fun w' => w'.heap[g8]? = some (.cells (List.toArray [.int .i64 (ee : Int)]) 84 (0, 0))) (by kernel_rfl) ?_
   change wpAnyH _ _ _ _ _ _ _ _ (World.drew _)
   refine tkp 0 (hFd.blk (i := 0) rfl) ?_
   (try simp only [zP, zQ, zS, zZ, zN])
   refine tkp 1 (hFd.blk (i := 0) rfl) ?_
   (try simp only [zP, zQ, zS, zZ, zN])
   refine tky 2 (y := yi_fld (by with_unfolding_all rfl) (fun _ h => h) uq32 rfl (by with_unfolding_all exact ⟨_, rfl, rfl⟩) rfl) (s := (hFd.blk (i := 0) rfl)) (h := ?_)
   (try simp only [zP, zQ, zS, zZ, zN])
   refine rdy1 3 (fun K hK => ?_)
   refine stp (by with_unfolding_all rfl) (wp_fstA hFd (i := 3) rfl (ds := doc0) (by with_unfolding_all exact ⟨_, _, rfl, rfl, rfl⟩) (by rw [doc0_len]; kernel_rfl) doc0_one (Nat.le_of_eq (Nat.zero_add _)) ?_)
   intro w31 hF31 hz31
   (try simp only [zZ, zN] at hF31)
   rw [(spl_all rfl : spl doc0 0 doc0 = doc0)] at hF31
   refine hK.out _ _ ((hF31.blk (i := 0) rfl)) (fun _ => ?_)
   clear hK K
   (try simp only [zP, zQ, zS, zZ, zN])
   refine tkp 4 (hF31.blk (i := 0) rfl) ?_
   (try simp only [zP, zQ, zS, zZ])
   refine wpAnyH_done (by kernel_rfl) ?_ _
   go_wp2_with fail
   exact bodyPost_ret (results_cellF2 rfl _ hF31 (i := 3) rfl rfl uq31 rfl (by rw [doc0_len]; kernel_rfl)) rfl (by
    unfold MPs
    rw [hJ.out]
    exact ⟨_, _, rfl, VDoc.zero, hF31⟩)
end Go.Proofs.YtlhicfpmlncomaaGreatDoor

namespace Go.Proofs.YtlhicfpmlncomaaGreatDoor
open Go.RowKit
def awkB : List UInt8 := [123, 34, 115, 99, 104, 101, 109, 97, 86, 101, 114, 115, 105, 111, 110, 34, 58, 50, 44, 34, 109, 101, 100, 105, 97, 84, 121, 112, 101, 34, 58, 34, 97, 112, 112, 108, 105, 99, 97, 116, 105, 111, 110, 47, 118, 110, 100, 46, 111, 99, 105, 46, 105, 109, 97, 103, 101, 46, 105, 110, 100, 101, 120, 46, 118, 49, 43, 106, 115, 111, 110, 34, 44, 34, 109, 97, 110, 105, 102, 101, 115, 116, 115, 34, 58, 91, 93, 125]
theorem mawk1 : mParse awkB = .ok ⟨[97, 112, 112, 108, 105, 99, 97, 116, 105, 111, 110, 47, 118, 110, 100, 46, 111, 99, 105, 46, 105, 109, 97, 103, 101, 46, 105, 110, 100, 101, 120, 46, 118, 49, 43, 106, 115, 111, 110], [], .zero, [], .zero, false, []⟩ := by kernel_rfl
theorem mawk2 : mParse [91, 93] = .error 80 := by kernel_rfl
set_option maxRecDepth 20000 in
set_option maxHeartbeats 6400000 in
theorem mawake_any (w : World) (B : Nat) (hB : B ≤ w.heap.size) (hL : MLibs B w) :
  Calls Tryz.prog 13 #[] w fun e w' => e = .returned (.bool true) ∧ Below w.heap.size w w' := by
 have hF0 := Fr.nil w
 have hL1 := hL.up hB
 go_enter Tryz.func13, Tryz.ntmps13
 go_wp2_with (first | ((with_reducible refine lsx (wp_fbsl T_u8 hF0 (vs := [bv 123, bv 34, bv 115, bv 99, bv 104, bv 101, bv 109, bv 97, bv 86, bv 101, bv 114, bv 115, bv 105, bv 111, bv 110, bv 34, bv 58, bv 50, bv 44, bv 34, bv 109, bv 101, bv 100, bv 105, bv 97, bv 84, bv 121, bv 112, bv 101, bv 34, bv 58, bv 34, bv 97, bv 112, bv 112, bv 108, bv 105, bv 99, bv 97, bv 116, bv 105, bv 111, bv 110, bv 47, bv 118, bv 110, bv 100, bv 46, bv 111, bv 99, bv 105, bv 46, bv 105, bv 109, bv 97, bv 103, bv 101, bv 46, bv 105, bv 110, bv 100, bv 101, bv 120, bv 46, bv 118, bv 49, bv 43, bv 106, bv 115, bv 111, bv 110, bv 34, bv 44, bv 34, bv 109, bv 97, bv 110, bv 105, bv 102, bv 101, bv 115, bv 116, bv 115, bv 34, bv 58, bv 91, bv 93, bv 125]) (by with_unfolding_all rfl) (by with_unfolding_all rfl) (by with_unfolding_all rfl) (by decide) (by simp [bv, Value.cells]) ?_)); intro w1 g1 hF1 hz1; have hr1 : Rd w1 (· < w1.heap.size) (some ⟨g1, 0, none⟩) 1 88 (([123,34,115,99,104,101,109,97,86,101,114,115,105,111,110,34,58,50,44,34,109,101,100,105,97,84,121,112,101,34,58,34,97,112,112,108,105,99,97,116,105,111,110,47,118,110,100,46,111,99,105,46,105,109,97,103,101,46,105,110,100,101,120,46,118,49,43,106,115,111,110,34,44,34,109,97,110,105,102,101,115,116,115,34,58,91,93,125] : List UInt8).map bv) := hF1.rdOwn (i := 0) rfl) | ((with_reducible refine lsx (wp_fmark T_u8 uq5 hF1 (by with_unfolding_all exact ⟨_, rfl, rfl⟩) ?_)); intro w2 hF2 hz2))
 have hp := mparse_any (some ⟨g1, 0, none⟩) 88 88 awkB w2 ((hL1.on hF2.below).up hF2.below.size) (Nat.le_refl _) (by decide) (hF2.rd (i := 0) rfl)
 rw [mawk1] at hp
 replace hp := box hp
 refine hp.out.mono ?_
 rintro e w3 ⟨cs, es, rfl, hD, h3⟩
 have hF3 := hF2.joinR h3
 simp only [List.cons_append, List.nil_append] at hF3
 obtain ⟨cf, eg, sj, nt, hC, ⟨A, n, c, xs, hnc, hn0, rfl, _, _⟩, hS, hN, rfl⟩ := hD
 simp only [mDc, List.length_nil] at hn0
 subst hn0
 have hcl := box hC.len
 have hsl := box hS.len
 have hco := box hC.ones
 have hso := box hS.ones
 have hno := hN.one
 simp only [mDc]
 clear hp h3 hC hS hN hF1 hF2
 have hdl := box (docL_len (m := [97, 112, 112, 108, 105, 99, 97, 116, 105, 111, 110, 47, 118, 110, 100, 46, 111, 99, 105, 46, 105, 109, 97, 103, 101, 46, 105, 110, 100, 101, 120, 46, 118, 49, 43, 106, 115, 111, 110]) (t := []) (eg := .slice A 0 c) (has := false) (nt := nt) hcl.out hsl.out)
 have hdo := box (docL_one (m := [97, 112, 112, 108, 105, 99, 97, 116, 105, 111, 110, 47, 118, 110, 100, 46, 111, 99, 105, 46, 105, 109, 97, 103, 101, 46, 105, 110, 100, 101, 120, 46, 118, 49, 43, 106, 115, 111, 110]) (t := []) (has := false) hco.out hso.out (rfl : (Value.slice A 0 c).oneCell' = true) hno)
 replace hno := box hno
 go_wp2_with (first | ((with_reducible refine lsx (wp_falloc hF3 (cs := doc0) (z := .agg (List.toArray (doc0))) rfl (by kernel_rfl) (by with_unfolding_all rfl) ?_)); intro w4 g4 hF4 hz4) | ((with_reducible refine lsx (wp_fstA0 hF4 (by with_unfolding_all exact ⟨_, _, rfl, rfl, rfl⟩) (by rw [hdl.out]; kernel_rfl) hdo.out (by rw [hdl.out, doc0_len]; decide) (spl_all (by rw [hdl.out, doc0_len])) ?_)); intro w5 hF5 hz5) | ((with_reducible refine lsx (wp_fbsl T_u8 hF5 (vs := [bv 91, bv 93]) (by with_unfolding_all rfl) (by with_unfolding_all rfl) (by with_unfolding_all rfl) (by decide) (by simp [bv, Value.cells]) ?_)); intro w6 g6 hF6 hz6; have hr6 : Rd w6 (· < w6.heap.size) (some ⟨g6, 0, none⟩) 1 2 (([91,93] : List UInt8).map bv) := hF6.rdOwn (i := 0) rfl) | ((with_reducible refine lsx (wp_fmark T_u8 uq5 hF6 (by with_unfolding_all exact ⟨_, rfl, rfl⟩) ?_)); intro w7 hF7 hz7))
 have hp := mparse_any (some ⟨g6, 0, none⟩) 2 2 [91, 93] w7 ((hL1.on hF7.below).up hF7.below.size) (Nat.le_refl _) (by decide) (hF7.rd (i := 0) rfl)
 rw [mawk2] at hp
 replace hp := box hp
 refine hp.out.mono ?_
 rintro e w8 ⟨cs8, es8, rfl, hD8, h8⟩
 have hF8 := hF7.joinR h8
 simp only [List.cons_append, List.nil_append] at hF8
 have hl8 := box hD8.len
 have ho8 := box hD8.ones
 simp only [mCode]
 clear hp h8 hD8 hF3 hF4 hF5 hF6 hF7
 go_wp2_with (first | ((with_reducible refine lsx (wp_falloc hF8 (cs := doc0) (z := .agg (List.toArray (doc0))) rfl (by kernel_rfl) (by with_unfolding_all rfl) ?_)); intro w9 g9 hF9 hz9) | ((with_reducible refine lsx (wp_fstA0 hF9 (by with_unfolding_all exact ⟨_, _, rfl, rfl, rfl⟩) (by rw [hl8.out]; kernel_rfl) ho8.out (by rw [hl8.out, doc0_len]; decide) (spl_all (by rw [hl8.out, doc0_len])) ?_)); intro w10 hF10 hz10) | (with_reducible refine lsx (wp_fld2 hF10 uq9 rfl (by with_unfolding_all exact ⟨_, rfl, rfl⟩) docL_m0 ?_)) | (with_reducible refine lsx (wp_fld2 hF10 uq29 rfl (by with_unfolding_all exact ⟨_, rfl, rfl⟩) (docL_eg hcl.out) ?_)))
 go_ret
 exact ⟨rfl, hF10.below⟩
end Go.Proofs.YtlhicfpmlncomaaGreatDoor

namespace Go.Proofs.YtlhicfpmlncomaaGreatDoor
open Go.RowKit
end Go.Proofs.YtlhicfpmlncomaaGreatDoor

namespace Go.Proofs.YtlhicfpmlncomaaGreatDoor
open Go.RowKit
end Go.Proofs.YtlhicfpmlncomaaGreatDoor

namespace Go.Proofs.YtlhicfpmlncomaaGreatDoor
open Go.RowKit
def RdN (w : World) (l : List MNote) (nt : Value) : Prop := ∃ A n c, n ≤ c ∧ n = l.length ∧ nt = .slice A n c ∧ Rd w (· < w.heap.size) A 2 n (ntsL l)
def RdD (w : World) (d : MDesc) (cs : List Value) : Prop := ∃ nt, d.dig.length = 32 ∧ RdN w d.notes nt ∧ cs = dsL d.media d.dig d.size nt
def RdE (w : World) (l : List MDesc) (v : Value) : Prop := ∃ A n c xs, n ≤ c ∧ n = l.length ∧ v = .slice A n c ∧ Rd w (· < w.heap.size) A 35 n xs ∧ ∀ i d, l[i]? = some d → RdD w d ((xs.drop (i * 35)).take 35)
def RdDoc (w : World) (d : MDoc) (cs : List Value) : Prop := ∃ cf eg sj nt, RdD w d.config cf ∧ RdE w d.edges eg ∧ RdD w d.subject sj ∧ RdN w d.notes nt ∧ cs = docL d.media d.type cf eg sj d.has nt
section
variable {w w' : World}
theorem RdN.on {l : List MNote} {nt : Value} (h : RdN w l nt) (hb : Below w.heap.size w w') : RdN w' l nt := by
 obtain ⟨A, n, c, h1, h2, h3, h4⟩ := h
 exact ⟨A, n, c, h1, h2, h3, h4.on hb⟩
theorem RdD.on {d : MDesc} {cs : List Value} (h : RdD w d cs) (hb : Below w.heap.size w w') : RdD w' d cs := by
 obtain ⟨nt, h1, h2, h3⟩ := h
 exact ⟨nt, h1, h2.on hb, h3⟩
theorem RdE.on {l : List MDesc} {v : Value} (h : RdE w l v) (hb : Below w.heap.size w w') : RdE w' l v := by
 obtain ⟨A, n, c, xs, h1, h2, h3, h4, h5⟩ := h
 exact ⟨A, n, c, xs, h1, h2, h3, h4.on hb, fun i d hi => (h5 i d hi).on hb⟩
theorem RdDoc.on {d : MDoc} {cs : List Value} (h : RdDoc w d cs) (hb : Below w.heap.size w w') : RdDoc w' d cs := by
 obtain ⟨cf, eg, sj, nt, h1, h2, h3, h4, h5⟩ := h
 exact ⟨cf, eg, sj, nt, h1.on hb, h2.on hb, h3.on hb, h4.on hb, h5⟩
theorem RdD.len {d : MDesc} {cs : List Value} (h : RdD w d cs) : cs.length = 35 := by
 obtain ⟨nt, h1, _, rfl⟩ := h
 exact dsL_len h1
theorem RdD.ones {d : MDesc} {cs : List Value} (h : RdD w d cs) : ∀ u ∈ cs, u.oneCell' = true := by
 obtain ⟨nt, h1, ⟨A, n, c, _, _, rfl, _⟩, rfl⟩ := h
 exact dsL_one
variable {X : List Nat} {w0 : World} {es es' : List Ent}
end
end Go.Proofs.YtlhicfpmlncomaaGreatDoor

namespace Go.Proofs.YtlhicfpmlncomaaGreatDoor
open Go.RowKit
theorem vlL_0k {k k' n : Int} {t : ByteArray} {a b : Value} : spl (vlL k n t a b) 0 [.int .i64 k'] = vlL k' n t a b := rfl
set_option maxRecDepth 20000 in
set_option maxHeartbeats 3200000 in
theorem rtext_any (s : List UInt8) (w : World) :
  Calls Tryz.prog 50 #[.string ⟨s.toArray⟩] w fun e w' => e = .returned (.agg (vlL 4 0 ⟨s.toArray⟩ (.slice none 0 0) (.slice none 0 0)).toArray) ∧ Below w.heap.size w w' := by
 have hF0 := Fr.nil w
 go_enter Tryz.func50, Tryz.ntmps50
 go_wp2_with (first | ((with_reducible refine lsx (wp_falloc hF0 (cs := vl0) (z := .agg (List.toArray (vl0))) rfl (by kernel_rfl) (by with_unfolding_all rfl) ?_)); intro w1 g1 hF1 hz1) | (with_reducible refine lsx (wp_fbuild uq51 (z := .agg (List.toArray vl0)) (by kernel_rfl) (pl := vlP) (by kernel_rfl) (cs := (vlL 4 0 ⟨s.toArray⟩ (.slice none 0 0) (.slice none 0 0))) rfl (vs := [(0, .int .i64 4), (2, .string ⟨s.toArray⟩)]) (by with_unfolding_all rfl) (by with_unfolding_all rfl) ?_)) | ((with_reducible refine lsx (wp_fstA0 hF1 (by with_unfolding_all exact ⟨_, _, rfl, rfl, rfl⟩) (by rw [vlL_len]; kernel_rfl) vlL_one vlL_fit vlL_spl ?_)); intro w2 hF2 hz2))
 exact bodyPost_ret (results_cellF rfl _ hF2 (i := 0) rfl rfl uq51 rfl (by rw [vlL_len]; kernel_rfl)) rfl ⟨rfl, hF2.below⟩
set_option maxRecDepth 20000 in
set_option maxHeartbeats 6400000 in
theorem rput_any {X : List Nat} {w0 w : World} {es : List Ent} {k num : Int} {t : ByteArray} {An Ak : Option Addr} {nn cn nk ck : Nat} {ns : List (List UInt8)} {xs : List Value} (s : List UInt8) (cs : List Value)
  (hF : Fr X w0 w (.own w0.heap.size 9 1 (.slice An nn cn) nn (ns.map strv) :: .own w0.heap.size 51 5 (.slice Ak nk ck) nk xs :: es)) (hnn : nn ≤ 1000000) (hnk : nk ≤ 1000000) (hcl : cs.length = 5) (hco : ∀ u ∈ cs, u.oneCell' = true) :
  Calls Tryz.prog 49 #[.agg (vlL k num t (.slice An nn cn) (.slice Ak nk ck)).toArray, .string ⟨s.toArray⟩, .agg cs.toArray] w fun e w' => ∃ A1 c1 A2 c2, nn + 1 ≤ c1 ∧ nk + 1 ≤ c2 ∧ e = .returned (.agg (vlL 6 num t (.slice A1 (nn + 1) c1) (.slice A2 (nk + 1) c2)).toArray) ∧
   Fr X w0 w' (.own w0.heap.size 9 1 (.slice A1 (nn + 1) c1) (nn + 1) ((ns ++ [s]).map strv) :: .own w0.heap.size 51 5 (.slice A2 (nk + 1) c2) (nk + 1) (xs ++ cs) :: es) := by
 replace hcl := box hcl
 replace hco := box hco
 go_enter Tryz.func49, Tryz.ntmps49
 go_wp2_with (first | ((with_reducible refine lsx (wp_fbox hF (cs := (vlL k num t (.slice An nn cn) (.slice Ak nk ck))) rfl (by with_unfolding_all rfl) (by with_unfolding_all rfl) ?_)); intro w1 g1 hF1 hz1) | ((with_reducible refine lsx (wp_fbox hF1 (cs := cs) rfl (by with_unfolding_all rfl) (by with_unfolding_all rfl) ?_)); intro w2 g2 hF2 hz2) | ((with_reducible refine lsx (wp_falloc hF2 (cs := vl0) (z := .agg (List.toArray (vl0))) rfl (by kernel_rfl) (by with_unfolding_all rfl) ?_)); intro w3 g3 hF3 hz3) | ((with_reducible refine lsx (wp_fst2 hF3 (by with_unfolding_all exact ⟨_, _, rfl, rfl, rfl⟩) (by kernel_rfl) rfl rfl (by rw [vlL_len]; decide) vlL_0k ?_)); intro w4 hF4 hz4) | (with_reducible refine lsx (wp_fld2 hF4 uq48 rfl (by with_unfolding_all exact ⟨_, rfl, rfl⟩) rfl ?_)) | ((with_reducible refine lsx (wp_fbsl T_strs hF4 (vs := [.string ⟨s.toArray⟩]) (by with_unfolding_all rfl) (by with_unfolding_all rfl) (by with_unfolding_all rfl) (by decide) (by simp [Value.cells]) ?_)); intro w5 g5 hF5 hz5) | ((with_reducible refine lsx (wp_fappG T_strs hF5 (i := 4) rfl (Nat.le_refl _) hF5.rdOwn0 (strs_one1 _) (by with_unfolding_all exact ⟨_, _, rfl, rfl, rfl⟩) (by unfold maxLen; omega) (by omega) ?_)); intro v6 w6 hF6 hz6; simp only [zZ, zN] at hF6; obtain ⟨A6, c6, rfl, hc6⟩ := hF6.ownParts (i := 4) rfl) | ((with_reducible refine lsx (wp_fst3 hF6 (by with_unfolding_all exact ⟨_, _, rfl, rfl, rfl⟩) (by kernel_rfl) rfl rfl (by rw [vlL_len]; decide) vlL_3 ?_)); intro w7 hF7 hz7) | (with_reducible refine lsx (wp_fld3 hF7 uq49 rfl (by with_unfolding_all exact ⟨_, rfl, rfl⟩) rfl ?_)) | (with_reducible refine lsx (wp_fldA2 hF7 uq51 rfl (by with_unfolding_all exact ⟨_, rfl, rfl⟩) (ds := cs) (by rw [hcl.out]; kernel_rfl) (take_all _) ?_)) | ((with_reducible refine lsx (wp_fbs1 T_rvals hF7 (by with_unfolding_all rfl) (ds := cs) (by with_unfolding_all rfl) hcl.out (by decide) ?_)); intro w8 g8 hF8 hz8) | ((with_reducible refine lsx (wp_fappG T_rvals hF8 (i := 6) rfl (Nat.le_refl _) hF8.rdOwn0 hco.out (by with_unfolding_all exact ⟨_, _, rfl, rfl, rfl⟩) (by unfold maxLen; omega) (by omega) ?_)); intro v9 w9 hF9 hz9; simp only [zZ, zN] at hF9; obtain ⟨A9, c9, rfl, hc9⟩ := hF9.ownParts (i := 6) rfl) | ((with_reducible refine lsx (wp_fst4 hF9 (by with_unfolding_all exact ⟨_, _, rfl, rfl, rfl⟩) (by kernel_rfl) rfl rfl (by rw [vlL_len]; decide) vlL_4 ?_)); intro w10 hF10 hz10) | (with_reducible refine lsx (wp_fldA4 hF10 uq51 rfl (by with_unfolding_all exact ⟨_, rfl, rfl⟩) (ds := (vlL 6 num t (.slice A6 (nn + 1) c6) (.slice A9 (nk + 1) c9))) (by rw [vlL_len]; kernel_rfl) (take_all _) ?_)) | ((with_reducible refine lsx (wp_fstA2 hF10 (by with_unfolding_all exact ⟨_, _, rfl, rfl, rfl⟩) (by rw [vlL_len]; kernel_rfl) vlL_one vlL_fit vlL_spl ?_)); intro w11 hF11 hz11))
 exact bodyPost_ret (results_cellF rfl _ hF11 (i := 2) rfl rfl uq51 rfl (by rw [vlL_len]; kernel_rfl)) rfl ⟨A6, c6, A9, c9, hc6, hc9, rfl, by
  rw [List.map_append]
  exact hF11.tail.tail.tail.tail.tail⟩
end Go.Proofs.YtlhicfpmlncomaaGreatDoor

namespace Go.Proofs.YtlhicfpmlncomaaGreatDoor
def MBs (d : MDoc) : Prop := d.config.notes.length ≤ 32 ∧ d.edges.length ≤ 64 ∧ (∀ x ∈ d.edges, x.notes.length ≤ 32) ∧ d.subject.notes.length ≤ 32 ∧ d.notes.length ≤ 32
theorem MBs.zero : MBs .zero := ⟨by simp [MDoc.zero, MDesc.zero], by simp [MDoc.zero], by simp [MDoc.zero], by simp [MDoc.zero, MDesc.zero], by simp [MDoc.zero]⟩
end Go.Proofs.YtlhicfpmlncomaaGreatDoor

namespace Go.Proofs.YtlhicfpmlncomaaGreatDoor
open Go.RowKit
def jWrite (v : JV) : List UInt8 × Nat :=
 match jRight 16 v 0 with
 | none => ([], 1)
 | some _ => if 65536 < (jFull v).length then ([], 8) else (jFull v, 0)
end Go.Proofs.YtlhicfpmlncomaaGreatDoor

namespace Go.Proofs.YtlhicfpmlncomaaGreatDoor
open Go.Lib
mutual
def jTot : JV → Nat
 | .mk k _ _ _ ks => if 5 ≤ k then 1 + jTotL ks else 1
def jTotL : List JV → Nat
 | [] => 0
 | v :: vs => jTot v + jTotL vs
end
mutual
def jCnt : JV → Nat → Nat
 | .mk k _ _ _ ks, most => if 5 ≤ k then jCntL ks most 1 else 1
def jCntL : List JV → Nat → Nat → Nat
 | [], _, n => n
 | v :: vs, most, n => if n ≤ most then jCntL vs most (n + jCnt v (most - n)) else n
end
mutual
theorem jCnt_tot : ∀ (v : JV) (most : Nat), (jTot v ≤ most → jCnt v most = jTot v) ∧ (most < jTot v → 0 < most → most < jCnt v most) ∧ jCnt v most ≤ jTot v ∧ 1 ≤ jCnt v most
 | .mk k n t ns ks, most => by
  rw [jTot, jCnt]
  by_cases hk : 5 ≤ k
  ·rw [if_pos hk, if_pos hk]
   have := jCntL_tot ks most 1
   exact ⟨fun h => this.1 (by omega), fun h _ => this.2.1 h, this.2.2.1, by have := this.2.2.2; omega⟩
  ·rw [if_neg hk, if_neg hk]
   exact ⟨fun _ => rfl, fun h h0 => by omega, Nat.le_refl _, Nat.le_refl _⟩
theorem jCntL_tot : ∀ (ks : List JV) (most n : Nat), (n + jTotL ks ≤ most → jCntL ks most n = n + jTotL ks) ∧ (most < n + jTotL ks → most < jCntL ks most n) ∧ jCntL ks most n ≤ n + jTotL ks ∧ n ≤ jCntL ks most n
 | [], most, n => by rw [jTotL, jCntL]; exact ⟨fun _ => rfl, fun h => h, Nat.le_refl _, Nat.le_refl _⟩
 | v :: vs, most, n => by
  rw [jTotL, jCntL]
  by_cases hn : n ≤ most
  ·rw [if_pos hn]
   obtain ⟨h1, h2, h3, h4⟩ := jCnt_tot v (most - n)
   obtain ⟨g1, g2, g3, g4⟩ := jCntL_tot vs most (n + jCnt v (most - n))
   refine ⟨fun h => ?_, fun h => ?_, by omega, by omega⟩
   ·have := h1 (by omega)
    have := g1 (by omega)
    omega
   ·by_cases hv : jTot v ≤ most - n
    ·have := h1 hv
     exact g2 (by omega)
    ·by_cases h0 : 0 < most - n
     ·have := h2 (by omega) h0
      omega
     ·omega
  ·rw [if_neg hn]
   exact ⟨fun h => by omega, fun _ => by omega, by omega, Nat.le_refl _⟩
end
theorem jCnt_most {v : JV} {most : Nat} (h0 : 0 < most) : most < jCnt v most ↔ most < jTot v := by
 obtain ⟨h1, h2, h3, _⟩ := jCnt_tot v most
 exact ⟨fun h => by omega, fun h => h2 h h0⟩
mutual
theorem jTot_w : ∀ (v : JV), jTot v ≤ jW v
 | .mk k n t ns ks => by
  have := jTotL_w ks
  rw [jTot, jW]
  split <;> omega
theorem jTotL_w : ∀ (ks : List JV), jTotL ks ≤ jWL ks
 | [] => Nat.le_refl _
 | v :: vs => by
  have h1 := jTot_w v
  have h2 := jTotL_w vs
  rw [jTotL, jWL]
  omega
end
theorem jTotL_drop {ks : List JV} {i : Nat} {v : JV} (hv : ks[i]? = some v) : jTotL (ks.drop i) = jTot v + jTotL (ks.drop (i + 1)) := by
 rw [List.drop_eq_getElem_cons (List.getElem?_eq_some_iff.1 hv).1, (List.getElem?_eq_some_iff.1 hv).2, jTotL]
theorem jCntL_drop {ks : List JV} {i most n : Nat} {v : JV} (hv : ks[i]? = some v) : jCntL (ks.drop i) most n = if n ≤ most then jCntL (ks.drop (i + 1)) most (n + jCnt v (most - n)) else n := by
 rw [List.drop_eq_getElem_cons (List.getElem?_eq_some_iff.1 hv).1, (List.getElem?_eq_some_iff.1 hv).2, jCntL]
def jBadD (k n : Int) (t : List UInt8) : Prop := k < 0 ∨ 6 < k ∨ 9007199254740991 < n ∨ n < -9007199254740991 ∨ validD t = false
instance (k n : Int) (t : List UInt8) : Decidable (jBadD k n t) := by unfold jBadD; exact inferInstance
def jDRL (f : JV → Bool) (obj : Bool) : List (List UInt8) → List (List UInt8) → List JV → Bool
 | _, _, [] => true
 | seen, ns, v :: vs => f v && (!(obj && decide (ns.headD [] ∈ seen)) && (!(obj && !validD (ns.headD [])) && jDRL f obj (seen ++ [ns.headD []]) ns.tail vs))
def jDR : Nat → JV → Bool
 | 0, .mk k n t _ _ => decide (¬ jBadD k n t) && decide (k < 5)
 | d + 1, .mk k n t ns ks => decide (¬ jBadD k n t) && (decide (k < 5) || (!decide (k = 6 ∧ ns.length ≠ ks.length) && jDRL (jDR d) (k == 6) [] ns ks))
theorem jBad_iff {k n : Int} {t : List UInt8} {m : Nat} : jBad k n t m ↔ 4096 < m + 1 ∨ jBadD k n t := by
 unfold jBad jBadD
 constructor
 ·rintro (h | h | h | h | h | h) <;> simp [h]
 ·rintro (h | h | h | h | h | h) <;> simp [h]
theorem jTot_pos (v : JV) : 1 ≤ jTot v := by cases v; rw [jTot]; split <;> omega
theorem jRightL_doc {f : JV → Nat → Option Nat} {g : JV → Bool} (hf : ∀ v m, f v m = if g v = true ∧ m + jTot v ≤ 4096 then some (m + jTot v) else none) {obj : Bool} : ∀ (ks : List JV) (seen ns : List (List UInt8)) (m : Nat),
  m ≤ 4096 → jRightL f obj seen ns ks m = if jDRL g obj seen ns ks = true ∧ m + jTotL ks ≤ 4096 then some (m + jTotL ks) else none
 | [], seen, ns, m, hm => by rw [jRightL, jDRL, jTotL, if_pos ⟨rfl, hm⟩]; rfl
 | v :: vs, seen, ns, m, hm => by
  rw [jRightL, jDRL, jTotL]
  by_cases hn : obj = true ∧ (validD (ns.headD []) = false ∨ ns.headD [] ∈ seen)
  ·rw [if_pos hn, if_neg]
   rintro ⟨h, _⟩
   simp only [Bool.and_eq_true, Bool.not_eq_true', Bool.and_eq_false_iff, decide_eq_false_iff_not, Bool.not_eq_false'] at h
   obtain ⟨_, h1, h2, _⟩ := h
   rcases hn.2 with h3 | h3
   ·rcases h2 with h2 | h2
    ·rw [hn.1] at h2; cases h2
    ·rw [h3] at h2; cases h2
   ·rcases h1 with h1 | h1
    ·rw [hn.1] at h1; cases h1
    ·exact h1 h3
  ·rw [if_neg hn, hf]
   have h1 : (!(obj && decide (ns.headD [] ∈ seen))) = true := by
    cases obj with
    | false => rfl
    | true => simp only [Bool.true_and, Bool.not_eq_true', decide_eq_false_iff_not]; exact fun h => hn ⟨rfl, .inr h⟩
   have h2 : (!(obj && !validD (ns.headD []))) = true := by
    cases obj with
    | false => rfl
    | true => simp only [Bool.true_and, Bool.not_not]; cases hv : validD (ns.headD []); exact absurd ⟨rfl, .inl hv⟩ hn; rfl
   rw [h1, h2]
   simp only [Bool.true_and]
   by_cases hg : g v = true ∧ m + jTot v ≤ 4096
   ·rw [if_pos hg]
    simp only []
    rw [jRightL_doc hf vs _ _ _ hg.2, hg.1]
    simp only [Bool.true_and, Nat.add_assoc]
   ·rw [if_neg hg, if_neg]
    rintro ⟨h3, h4⟩
    rw [Bool.and_eq_true] at h3
    exact hg ⟨h3.1, by omega⟩
theorem jRight_doc : ∀ (d : Nat) (v : JV) (m : Nat), jRight d v m = if jDR d v = true ∧ m + jTot v ≤ 4096 then some (m + jTot v) else none
 | 0, .mk k n t ns ks, m => by
  rw [jRight, jDR, jTot]
  by_cases hb : jBad k n t m
  ·rw [if_pos hb, if_neg]
   rintro ⟨h, h2⟩
   rw [Bool.and_eq_true, decide_eq_true_eq, decide_eq_true_eq] at h
   rcases jBad_iff.1 hb with h1 | h1
   ·split at h2 <;> omega
   ·exact h.1 h1
  ·rw [if_neg hb]
   have hb2 : ¬ jBadD k n t := fun h => hb (jBad_iff.2 (.inr h))
   have hm : ¬ 4096 < m + 1 := fun h => hb (jBad_iff.2 (.inl h))
   by_cases hk : k < 5
   ·rw [if_pos hk, if_neg (show ¬ 5 ≤ k by omega), if_pos ⟨by simp [hb2, hk], by omega⟩]
   ·rw [if_neg hk, if_neg (by simp [hk])]
 | d + 1, .mk k n t ns ks, m => by
  rw [jRight, jDR, jTot]
  by_cases hb : jBad k n t m
  ·rw [if_pos hb, if_neg]
   rintro ⟨h, h2⟩
   rw [Bool.and_eq_true, decide_eq_true_eq] at h
   rcases jBad_iff.1 hb with h1 | h1
   ·split at h2 <;> omega
   ·exact h.1 h1
  ·rw [if_neg hb]
   have hb2 : ¬ jBadD k n t := fun h => hb (jBad_iff.2 (.inr h))
   have hm : ¬ 4096 < m + 1 := fun h => hb (jBad_iff.2 (.inl h))
   by_cases hk : k < 5
   ·rw [if_pos hk, if_neg (show ¬ 5 ≤ k by omega), if_pos ⟨by simp [hb2, hk], by omega⟩]
   ·rw [if_neg hk, if_pos (show 5 ≤ k by omega)]
    by_cases hl : k = 6 ∧ ns.length ≠ ks.length
    ·rw [if_pos hl, if_neg (by simp [hk, hl])]
    ·rw [if_neg hl, jRightL_doc (jRight_doc d) ks [] ns (m + 1) (by omega)]
     have e1 : (decide (¬ jBadD k n t) && (decide (k < 5) || (!decide (k = 6 ∧ ns.length ≠ ks.length) && jDRL (jDR d) (k == 6) [] ns ks))) = jDRL (jDR d) (k == 6) [] ns ks := by
      rw [decide_eq_true hb2, decide_eq_false hk, decide_eq_false hl]; rfl
     rw [e1]
     simp only [Nat.add_assoc]
theorem jWrite_doc (v : JV) : jWrite v = if 4096 < jCnt v 4096 ∨ jDR 16 v = false then ([], 1) else if 65536 < (jFull v).length then ([], 8) else (jFull v, 0) := by
 unfold jWrite
 rw [jRight_doc, Nat.zero_add]
 by_cases h : 4096 < jCnt v 4096 ∨ jDR 16 v = false
 ·rw [if_pos h, if_neg]
  rintro ⟨h1, h2⟩
  rcases h with h | h
  ·have := (jCnt_most (v := v) (by decide)).1 h; omega
  ·rw [h] at h1; cases h1
 ·rw [if_neg h, if_pos]
  refine ⟨?_, ?_⟩
  ·cases hd : jDR 16 v
   ·exact absurd (.inr hd) h
   ·rfl
  ·rcases Nat.lt_or_ge 4096 (jTot v) with h1 | h1
   ·exact absurd (.inl ((jCnt_most (by decide)).2 h1)) h
   ·exact h1
end Go.Proofs.YtlhicfpmlncomaaGreatDoor

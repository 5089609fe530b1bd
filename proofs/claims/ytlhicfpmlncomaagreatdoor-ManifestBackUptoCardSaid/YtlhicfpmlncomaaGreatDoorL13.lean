/-
 Layer 8: the program's read, walked.
 Layer 8: errors.As at the program's own kind of error, walked (after the worked example of errors.As at a concrete target).
 Layer 6, plain law: a fault has a number. No program is named here.
 Layer 8: the program's Parse, walked.
 Layer 8: answers that the document fixes.
 Layer 8: the laws' From, and parts of To: notes, descriptors and documents laid anew.
-/
import Derived.Test.YtlhicfpmlncomaaGreatDoorL12
import Derived.Test.YtlhicfpmlncomaaGreatDoorL03
import Derived.WalkKit
import Derived.LaidEql
import Derived.Stop.Asserts
import Derived.RowKitTokens
import Derived.Test.YtlhicfpmlncomaaGreatDoorL01
set_option linter.unusedSimpArgs false
namespace Go.Proofs.YtlhicfpmlncomaaGreatDoor
open Go.RowKit
set_option linter.unusedSimpArgs false
set_option linter.unusedVariables false
theorem VRd.stay {w w' : World} {B : Nat} {v : JV} {cs : List Value} (h : VRd w (· < B) v cs) (hb : Below B w w') : VRd w' (· < B) v cs :=
 VRd.keep (fun _ hk => hk) (fun k hk => hb.block k hk) v h
theorem mReadL_go {ns : List (List UInt8)} {ks : List JV} {i : Nat} {s : List UInt8} {k : JV} {d : MDoc} {h : MGot} (hs : ns[i]? = some s) (hk : ks[i]? = some k) : mReadL d h (ns.drop i) (ks.drop i) = match rStep d s k with
  | .ok d' => mReadL d' (h.one s) (ns.drop (i + 1)) (ks.drop (i + 1))
  | .error e => .error e := by
 rw [List.drop_eq_getElem_cons (List.getElem?_eq_some_iff.1 hs).1, (List.getElem?_eq_some_iff.1 hs).2, List.drop_eq_getElem_cons (List.getElem?_eq_some_iff.1 hk).1, (List.getElem?_eq_some_iff.1 hk).2, mReadL, mStep_one]
 cases rStep d s k <;> rfl
theorem mReadL_end {ns : List (List UInt8)} {ks : List JV} {i : Nat} {d : MDoc} {h : MGot} (hk : ks.length ≤ i) : mReadL d h (ns.drop i) (ks.drop i) = if mWhole d h = true then .ok d else .error 80 := by
 rw [List.drop_of_length_le hk]
 cases ns.drop i <;> (rw [mReadL]; intros; rename_i h1 h2; cases h2)
theorem got_19 (h : MGot) : ((gotI h : Int) != 19) = !(h.v && (h.m && (!h.c && (!h.l && h.i)))) := by obtain ⟨a, b, c, d, e⟩ := h; cases a <;> cases b <;> cases c <;> cases d <;> cases e <;> rfl
theorem got_15 (h : MGot) : ((gotI h : Int) != 15) = !(h.v && (h.m && (h.c && (h.l && !h.i)))) := by obtain ⟨a, b, c, d, e⟩ := h; cases a <;> cases b <;> cases c <;> cases d <;> cases e <;> rfl
def docP : List (Nat × Nat) := [(0, 1), (1, 1), (2, 35), (37, 1), (38, 35), (73, 1), (74, 1)]
def mDc (r : MR MDoc) : MDoc := match r with
 | .ok d => d
 | .error _ => .zero
/-- A document is told, or an error. -/
def MRd (w : World) (r : MR MDoc) (e : Ending) (w' : World) : Prop := ∃ cs es, e = .returned (.tuple #[.agg cs.toArray, mErr r]) ∧ VDoc (mDc r) cs es ∧ Fr [] w w' es
set_option maxRecDepth 20000 in
set_option maxHeartbeats 12800000 in
theorem mread_any (v : JV) (cs : List Value) (w : World) (hM : MaxAt w.heap.size w) (hv : VRd w (· < w.heap.size) v cs) (hob : JOb v) :
  Calls Tryz.prog 31 #[.agg cs.toArray] w (MRd w (mRead v)) := by
 obtain ⟨k, n, t, ns, ks⟩ := v
 rw [VRd] at hv
 obtain ⟨An, nn, cn, Ak, nk, ck, xs, hcn, hck, rfl, hrn, hrk, hvk⟩ := hv
 have hF0 := Fr.nil w
 have hkl := hvk.len
 rw [hrk.len] at hkl
 have hnl := hrn.len
 rw [List.length_map, Nat.mul_one] at hnl
 have hobj := hob.obj
 simp only [JV.kind, JV.names, JV.kids] at hobj
 by_cases hk : k = 6
 rotate_left
 ·have hj : Box (mRead (.mk k n t ns ks) = .error 80) := box (if_neg hk)
  have hq : ((k : Int) != 6) = true := by rw [bne_iff_ne]; exact hk
  replace hk := box hk
  clear hobj
  go_enter Tryz.func31, Tryz.ntmps31
  go_wp2_with (first | ((with_reducible refine lsx (wp_fbox hF0 (cs := (vlL k n ⟨t.toArray⟩ (.slice An nn cn) (.slice Ak nk ck))) rfl (by with_unfolding_all rfl) (by with_unfolding_all rfl) ?_)); intro w1 g1 hF1 hz1) | ((with_reducible refine lsx (wp_falloc hF1 (cs := doc0) (z := .agg (List.toArray (doc0))) rfl (by kernel_rfl) (by with_unfolding_all rfl) ?_)); intro w2 g2 hF2 hz2) | ((with_reducible refine lsx (wp_falloc hF2 (cs := doc0) (z := .agg (List.toArray (doc0))) rfl (by kernel_rfl) (by with_unfolding_all rfl) ?_)); intro w3 g3 hF3 hz3) | (with_reducible refine lsx (wp_fld2 hF3 Tryz.underlying3 rfl (by with_unfolding_all exact ⟨_, rfl, rfl⟩) rfl ?_)) | (with_reducible refine lsx (wp_fldA0 hF3 Tryz.underlying31 rfl (by with_unfolding_all exact ⟨_, rfl, rfl⟩) (ds := doc0) (by rw [doc0_len]; kernel_rfl) (take_all _) ?_)) | ((with_reducible refine lsx (wp_fstA1 hF3 (by with_unfolding_all exact ⟨_, _, rfl, rfl, rfl⟩) (by rw [doc0_len]; kernel_rfl) doc0_one (by first | exact Nat.le_of_eq (Nat.zero_add _) | (rw [doc0_len, doc0_len]; decide)) (spl_all (by first | rfl | (rw [doc0_len, doc0_len]))) ?_)); intro w4 hF4 hz4))
  exact bodyPost_ret (results_cellF2 rfl _ hF4 (i := 1) rfl rfl Tryz.underlying31 rfl (by rw [doc0_len]; kernel_rfl)) rfl (by
   unfold MRd
   rw [hj.out]
   exact ⟨_, _, rfl, VDoc.zero, hF4.tail.tail⟩)
 have hq : ((k : Int) != 6) = false := by rw [hk]; rfl
 have hnk : nk = ks.length := by omega
 have hnn : ns.length = nk := by rw [hnk]; exact (hobj hk).1
 have hkn : nk ≤ 1048576 := by rw [hnk]; exact hob.small.2.2
 have hkob := box (fun u hu => hob.kid (k := u) hu)
 simp only [JV.kids] at hkob
 obtain ⟨J, hJ0⟩ : ∃ J, J = mRead (.mk k n t ns ks) := ⟨_, rfl⟩
 have hJ : Box (J = mReadL .zero ⟨false, false, false, false, false⟩ (ns.drop 0) (ks.drop 0)) := box (by rw [hJ0, List.drop_zero, List.drop_zero]; exact if_pos hk)
 rw [← hJ0]
 have hnn2 : nn = nk := by omega
 subst hnn2
 replace hk := box hk
 replace hnk := box hnk
 replace hnn := box hnn
 replace hvk := box hvk
 clear hobj hkl hnl hJ0 hob
 go_enter Tryz.func31, Tryz.ntmps31
 go_wp2_with (first | ((with_reducible refine lsx (wp_fbox hF0 (cs := (vlL k n ⟨t.toArray⟩ (.slice An nn cn) (.slice Ak nn ck))) rfl (by with_unfolding_all rfl) (by with_unfolding_all rfl) ?_)); intro w1 g1 hF1 hz1) | ((with_reducible refine lsx (wp_falloc hF1 (cs := doc0) (z := .agg (List.toArray (doc0))) rfl (by kernel_rfl) (by with_unfolding_all rfl) ?_)); intro w2 g2 hF2 hz2) | ((with_reducible refine lsx (wp_falloc hF2 (cs := doc0) (z := .agg (List.toArray (doc0))) rfl (by kernel_rfl) (by with_unfolding_all rfl) ?_)); intro w3 g3 hF3 hz3) | (with_reducible refine lsx (wp_fld2 hF3 Tryz.underlying3 rfl (by with_unfolding_all exact ⟨_, rfl, rfl⟩) rfl ?_)) | (with_reducible refine lsx (wp_fld2 hF3 Tryz.underlying74 rfl (by with_unfolding_all exact ⟨_, rfl, rfl⟩) rfl ?_)))
 have hg3 : w.heap.size ≤ g3 := by
  rcases hF3.fresh 0 _ rfl _ rfl with h | h
  ·exact h
  ·simp at h
 clear hF0 hF1 hF2
 go_loopg [5, 20] nn (fun g hv iv wr => ∃ (i : Nat) (d : MDoc) (h : MGot) (cd : List Value) (TE : List Ent), i ≤ nn ∧ Box (g = nn - i) ∧ iv = .int .i64 (i : Int) ∧ hv = .int .i64 (gotI h) ∧ Box (VDoc d cd TE) ∧ Box (J = mReadL d h (ns.drop i) (ks.drop i)) ∧ Fr [] w wr (.blk g3 31 cd :: .blk g2 31 doc0 :: .blk g1 76 (vlL k n ⟨t.toArray⟩ (.slice An nn cn) (.slice Ak nn ck)) :: TE))
 case atStart => exact ⟨0, .zero, ⟨false, false, false, false, false⟩, _, [], by omega, box rfl, rfl, rfl, box VDoc.zero, hJ, hF3⟩
 case round =>
  clear hF3 hJ
  obtain ⟨i, d, h, cd, TE, hi, hgi, rfl, rfl, hD, hJ, hF⟩ := hrel
  have hkk : Box (_ = nn - i) := hgi
  clear hgi
  have hrk' := hrk.below hF.below
  have hdl := box hD.out.len
  have hdo := box hD.out.ones
  obtain ⟨cf, eg, sj, nt, hC, hE, hS, hN, hcd⟩ := hD.out
  by_cases hlt : i < nn
  ·obtain ⟨u, hu⟩ : ∃ u, ks[i]? = some u := ⟨ks[i]'(by rw [← hnk.out]; exact hlt), by simp⟩
   obtain ⟨s, hs⟩ : ∃ s, ns[i]? = some s := ⟨ns[i]'(by rw [hnn.out]; exact hlt), by simp⟩
   obtain ⟨ci, hci, hvi⟩ := hvk.out.at hu
   have hstep := box (hJ.out.trans (mReadL_go hs hu))
   have hss : Box ((ns.map strv)[i]? = some (.string ⟨s.toArray⟩)) := box (by rw [List.getElem?_map, hs]; rfl)
   have hcil := box hvi.len
   have hcio := box (VRd.ones hvi)
   have hub := hkob.out u (List.mem_of_getElem? hu)
   subst hcd
   have hmem := box (fun w' (gk : Nat) (hF : Fr [] w w' (.blk gk 76 ci :: .blk g3 31 (docL d.media d.type cf eg sj d.has nt) :: .blk g2 31 doc0 :: .blk g1 76 (vlL k n ⟨t.toArray⟩ (.slice An nn cn) (.slice Ak nn ck)) :: TE)) => mmember_any g3 w.heap.size d cf eg sj nt TE s u ci w' (hF.blk (i := 1) rfl) hg3 hF.below.size hC hE hS hN (hM.on hF.below) (hvi.stay hF.below) hub)
   replace hci := box hci
   clear hu hs hJ hC hE hS hN hub hvi
   go_upto_region 8 with (first | (with_reducible refine lsx (wp_indexAddr T_vals hrk' (by with_unfolding_all exact ⟨_, _, _, _, rfl, rfl, rfl⟩) (by omega) (by omega) ?_)) | (with_reducible refine lsx (wp_loadA hrk' Tryz.underlying76 rfl (by with_unfolding_all exact ⟨_, rfl, rfl⟩) (ds := ci) (by rw [hcil.out]; kernel_rfl) (by rw [hcil.out]; with_unfolding_all exact hci.out) ?_)) | ((with_reducible refine lsx (wp_falloc hF (cs := vl0) (z := .agg (List.toArray (vl0))) rfl (by kernel_rfl) (by with_unfolding_all rfl) ?_)); intro w22 g22 hF22 hz22) | ((with_reducible refine lsx (wp_fstA0 hF22 (by with_unfolding_all exact ⟨_, _, rfl, rfl, rfl⟩) (by rw [hcil.out]; kernel_rfl) hcio.out (by rw [hcil.out, vlL_len]; decide) (spl_all (by rw [hcil.out, vlL_len])) ?_)); intro w23 hF23 hz23))
   replace hmem := box (fun w' hF => hmem.out w' g22 hF)
   have hFd := hF23.drew
   clear hF hF22 hF23
   refine wp_region_held (S := fun w' => w'.heap[g22]? = some (.cells (List.toArray ci) 76 (0, 0)) ∧ w'.heap[g1]? = some (.cells (List.toArray (vlL k n ⟨t.toArray⟩ (.slice An nn cn) (.slice Ak nn ck))) 76 (0, 0)) ∧ Rd w' (· < w.heap.size) An 1 nn (ns.map strv)) (by kernel_rfl) ?_
   change wpAnyH _ _ _ _ _ _ _ _ (World.drew _)
   refine tkp 0 ⟨hFd.blk (i := 0) rfl, hFd.blk (i := 3) rfl, hrn.below hFd.below⟩ ?_
   (try simp only [zP, zQ, zS, zZ, zN])
   refine tky 1 (y := yi_fld (by with_unfolding_all rfl) (fun _ h => h.2.1) Tryz.underlying48 rfl (by with_unfolding_all exact ⟨_, rfl, rfl⟩) rfl) (s := ⟨hFd.blk (i := 0) rfl, hFd.blk (i := 3) rfl, hrn.below hFd.below⟩) (h := ?_)
   (try simp only [zP, zQ, zS, zZ, zN])
   refine tkp 2 ⟨hFd.blk (i := 0) rfl, hFd.blk (i := 3) rfl, hrn.below hFd.below⟩ ?_
   (try simp only [zP, zQ, zS, zZ, zN])
   refine tky 3 (y := yi_ix (by with_unfolding_all rfl) T_strs (fun h => hrn.some_ h) (k := i) (by with_unfolding_all exact ⟨_, _, _, _, rfl, rfl, rfl⟩) rfl (by omega)) (s := ⟨hFd.blk (i := 0) rfl, hFd.blk (i := 3) rfl, hrn.below hFd.below⟩) (h := ?_)
   (try simp only [zP, zQ, zS, zZ, zN])
   refine tky 4 (y := yi_ld (by with_unfolding_all rfl) (j := i * 1) (fun _ h => h.2.2) Tryz.underlying9 rfl (by with_unfolding_all exact ⟨_, rfl, rfl⟩) (by rw [Nat.mul_one]; exact hss.out)) (s := ⟨hFd.blk (i := 0) rfl, hFd.blk (i := 3) rfl, hrn.below hFd.below⟩) (h := ?_)
   (try simp only [zP, zQ, zS, zZ, zN])
   refine tky 5 (y := yi_fldA (by with_unfolding_all rfl) (fun _ h => h.1) Tryz.underlying76 rfl (by with_unfolding_all exact ⟨_, rfl, rfl⟩) (ds := ci) (by rw [hcil.out]; kernel_rfl) (take_all _)) (s := ⟨hFd.blk (i := 0) rfl, hFd.blk (i := 3) rfl, hrn.below hFd.below⟩) (h := ?_)
   (try simp only [zP, zQ, zS, zZ, zN])
   refine rdy1 6 (fun K hK => ?_)
   refine stp (by with_unfolding_all rfl) (wp_call Tryz.func66 rfl (by with_unfolding_all rfl) (by with_unfolding_all rfl) (by with_unfolding_all rfl) (hmem.out _ hFd) ?_)
   rintro e w41 ⟨cs41, es41, b41, rfl, hl41, ho41, hv41, hok41⟩
   refine ⟨_, rfl, ?_⟩
   have hF41 := hFd.putG (i := 1) rfl hv41
   simp only [List.set_cons_zero, List.set_cons_succ, List.cons_append] at hF41
   refine hK.out _ _ (⟨hF41.blk (i := 0) rfl, hF41.blk (i := 3) rfl, hrn.below hF41.below⟩) (fun _ => ?_)
   clear hK K
   (try simp only [zP, zQ, zS, zZ, zN])
   refine tkp 7 ⟨hF41.blk (i := 0) rfl, hF41.blk (i := 3) rfl, hrn.below hF41.below⟩ ?_
   (try simp only [zP, zQ, zS, zZ, zN])
   refine tkp 8 ⟨hF41.blk (i := 0) rfl, hF41.blk (i := 3) rfl, hrn.below hF41.below⟩ ?_
   (try simp only [zP, zQ, zS, zZ, zN])
   refine tkp 9 ⟨hF41.blk (i := 0) rfl, hF41.blk (i := 3) rfl, hrn.below hF41.below⟩ ?_
   (try simp only [zP, zQ, zS, zZ, zN])
   refine tkp 10 ⟨hF41.blk (i := 0) rfl, hF41.blk (i := 3) rfl, hrn.below hF41.below⟩ ?_
   (try simp only [zP, zQ, zS, zZ])
   refine tkp 11 ⟨hF41.blk (i := 0) rfl, hF41.blk (i := 3) rfl, hrn.below hF41.below⟩ ?_
   (try simp only [zP, zQ, zS, zZ])
   refine wpAnyH_done (by kernel_rfl) ?_ _
   cases hm : rStep d s u with
   | error ee =>
    rw [hm] at hstep
    simp only [] at hstep
    simp only [mErr]
    replace ho41 := box ho41
    replace hl41 := box hl41
    clear hok41 hv41
    go_wp2_with (first | (with_reducible refine lsx (wp_fbuild Tryz.underlying31 (z := .agg (List.toArray doc0)) (by kernel_rfl) (pl := docP) (by kernel_rfl) (cs := doc0) rfl (vs := []) (by with_unfolding_all rfl) (by with_unfolding_all rfl) ?_)) | ((with_reducible refine lsx (wp_fstA2 hF41 (by with_unfolding_all exact ⟨_, _, rfl, rfl, rfl⟩) (by rw [doc0_len]; kernel_rfl) doc0_one (by first | exact Nat.le_of_eq (Nat.zero_add _) | (rw [doc0_len, doc0_len]; decide)) (spl_all (by first | rfl | (rw [doc0_len, doc0_len]))) ?_)); intro w60 hF60 hz60))
    exact bodyPost_ret (results_cellF2 rfl _ hF60 (i := 2) rfl rfl Tryz.underlying31 rfl (by rw [doc0_len]; kernel_rfl)) rfl (by
     unfold MRd
     rw [hstep.out]
     exact ⟨_, _, rfl, VDoc.zero, hF60.tail.tail.tail.tail⟩)
   | ok d' =>
    rw [hm] at hstep
    simp only [] at hstep
    simp only [mErr]
    obtain ⟨hb, hD'⟩ := hok41 d' hm
    have hor := got_or h s
    rw [← hb] at hor
    replace hor := box hor
    replace hb := box hb
    replace hD' := box hD'
    clear hv41 hok41 hl41 ho41
    go_wp2_with fail
    go_roundg (nn - (i + 1))
    case rel => exact ⟨i + 1, d', h.one s, cs41, TE ++ es41, by omega, box rfl, by go_num, congrArg (Value.int .i64) hor.out, hD', hstep, hF41.tail⟩
    case measure => have := hkk.out; omega
  ·have hend := hJ.out.trans (mReadL_end (by rw [← hnk.out]; omega))
   obtain rfl : nn = i := by omega
   subst hcd
   have hzl := box doc0_len
   by_cases hix : d.media = sIndex
   ·have e1 : (d.media == [97, 112, 112, 108, 105, 99, 97, 116, 105, 111, 110, 47, 118, 110, 100, 46, 111, 99, 105, 46, 105, 109, 97, 103, 101, 46, 105, 110, 100, 101, 120, 46, 118, 49, 43, 106, 115, 111, 110]) = true := by rw [beq_iff_eq]; exact hix
    have hw : mWhole d h = (h.v && (h.m && (!h.c && (!h.l && h.i)))) := if_pos hix
    have h19 := got_19 h
    rw [← hw] at h19
    replace hix := box hix
    cases hww : mWhole d h with
    | true =>
     rw [hww] at h19 hend
     rw [if_pos rfl] at hend
     replace h19 : ((gotI h : Int) != 19) = false := h19
     replace hend := box hend
     clear hw hww
     go_wp2_with (first | (with_reducible refine lsx (wp_fld0 hF Tryz.underlying9 rfl (by with_unfolding_all exact ⟨_, rfl, rfl⟩) docL_m0 ?_)) | (with_reducible refine lsx (wp_fldA0 hF Tryz.underlying31 rfl (by with_unfolding_all exact ⟨_, rfl, rfl⟩) (ds := (docL d.media d.type cf eg sj d.has nt)) (by rw [hdl.out]; kernel_rfl) (take_all _) ?_)) | ((with_reducible refine lsx (wp_fstA1 hF (by with_unfolding_all exact ⟨_, _, rfl, rfl, rfl⟩) (by rw [hdl.out]; kernel_rfl) hdo.out (by rw [hdl.out, hzl.out]; decide) (spl_all (by rw [hdl.out, hzl.out])) ?_)); intro w60 hF60 hz60))
     exact bodyPost_ret (results_cellF2 rfl _ hF60 (i := 1) rfl rfl Tryz.underlying31 rfl (by rw [hdl.out]; kernel_rfl)) rfl (by
      unfold MRd
      rw [hend.out]
      exact ⟨_, _, rfl, hD.out, hF60.tail.tail.tail⟩)
    | false =>
     rw [hww] at h19 hend
     rw [if_neg (by decide)] at hend
     replace h19 : ((gotI h : Int) != 19) = true := h19
     replace hend := box hend
     clear hw hww
     go_wp2_with (first | (with_reducible refine lsx (wp_fld0 hF Tryz.underlying9 rfl (by with_unfolding_all exact ⟨_, rfl, rfl⟩) docL_m0 ?_)) | (with_reducible refine lsx (wp_fbuild Tryz.underlying31 (z := .agg (List.toArray doc0)) (by kernel_rfl) (pl := docP) (by kernel_rfl) (cs := doc0) rfl (vs := []) (by with_unfolding_all rfl) (by with_unfolding_all rfl) ?_)) | ((with_reducible refine lsx (wp_fstA1 hF (by with_unfolding_all exact ⟨_, _, rfl, rfl, rfl⟩) (by rw [doc0_len]; kernel_rfl) doc0_one (by first | exact Nat.le_of_eq (Nat.zero_add _) | (rw [doc0_len, doc0_len]; decide)) (spl_all (by first | rfl | (rw [doc0_len, doc0_len]))) ?_)); intro w60 hF60 hz60))
     exact bodyPost_ret (results_cellF2 rfl _ hF60 (i := 1) rfl rfl Tryz.underlying31 rfl (by rw [doc0_len]; kernel_rfl)) rfl (by
      unfold MRd
      rw [hend.out]
      exact ⟨_, _, rfl, VDoc.zero, hF60.tail.tail.tail⟩)
   ·have e1 : (d.media == [97, 112, 112, 108, 105, 99, 97, 116, 105, 111, 110, 47, 118, 110, 100, 46, 111, 99, 105, 46, 105, 109, 97, 103, 101, 46, 105, 110, 100, 101, 120, 46, 118, 49, 43, 106, 115, 111, 110]) = false := by rw [beq_eq_false_iff_ne]; exact hix
    have hw : mWhole d h = (h.v && (h.m && (h.c && (h.l && !h.i)))) := if_neg hix
    have h19 := got_15 h
    rw [← hw] at h19
    replace hix := box hix
    cases hww : mWhole d h with
    | true =>
     rw [hww] at h19 hend
     rw [if_pos rfl] at hend
     replace h19 : ((gotI h : Int) != 15) = false := h19
     replace hend := box hend
     clear hw hww
     go_wp2_with (first | (with_reducible refine lsx (wp_fld0 hF Tryz.underlying9 rfl (by with_unfolding_all exact ⟨_, rfl, rfl⟩) docL_m0 ?_)) | (with_reducible refine lsx (wp_fldA0 hF Tryz.underlying31 rfl (by with_unfolding_all exact ⟨_, rfl, rfl⟩) (ds := (docL d.media d.type cf eg sj d.has nt)) (by rw [hdl.out]; kernel_rfl) (take_all _) ?_)) | ((with_reducible refine lsx (wp_fstA1 hF (by with_unfolding_all exact ⟨_, _, rfl, rfl, rfl⟩) (by rw [hdl.out]; kernel_rfl) hdo.out (by rw [hdl.out, hzl.out]; decide) (spl_all (by rw [hdl.out, hzl.out])) ?_)); intro w60 hF60 hz60))
     exact bodyPost_ret (results_cellF2 rfl _ hF60 (i := 1) rfl rfl Tryz.underlying31 rfl (by rw [hdl.out]; kernel_rfl)) rfl (by
      unfold MRd
      rw [hend.out]
      exact ⟨_, _, rfl, hD.out, hF60.tail.tail.tail⟩)
    | false =>
     rw [hww] at h19 hend
     rw [if_neg (by decide)] at hend
     replace h19 : ((gotI h : Int) != 15) = true := h19
     replace hend := box hend
     clear hw hww
     go_wp2_with (first | (with_reducible refine lsx (wp_fld0 hF Tryz.underlying9 rfl (by with_unfolding_all exact ⟨_, rfl, rfl⟩) docL_m0 ?_)) | (with_reducible refine lsx (wp_fbuild Tryz.underlying31 (z := .agg (List.toArray doc0)) (by kernel_rfl) (pl := docP) (by kernel_rfl) (cs := doc0) rfl (vs := []) (by with_unfolding_all rfl) (by with_unfolding_all rfl) ?_)) | ((with_reducible refine lsx (wp_fstA1 hF (by with_unfolding_all exact ⟨_, _, rfl, rfl, rfl⟩) (by rw [doc0_len]; kernel_rfl) doc0_one (by first | exact Nat.le_of_eq (Nat.zero_add _) | (rw [doc0_len, doc0_len]; decide)) (spl_all (by first | rfl | (rw [doc0_len, doc0_len]))) ?_)); intro w60 hF60 hz60))
     exact bodyPost_ret (results_cellF2 rfl _ hF60 (i := 1) rfl rfl Tryz.underlying31 rfl (by rw [doc0_len]; kernel_rfl)) rfl (by
      unfold MRd
      rw [hend.out]
      exact ⟨_, _, rfl, VDoc.zero, hF60.tail.tail.tail⟩)
end Go.Proofs.YtlhicfpmlncomaaGreatDoor

namespace Go.Proofs.YtlhicfpmlncomaaGreatDoor
open Go.RowKit Go.Extern.Stop Go.Stop Go.Extern
set_option linter.unusedSimpArgs false
set_option linter.unusedVariables false
theorem as_nil (t : Value) (w : World) :
  Calls Tryz.prog 32 #[.nilIface, t] w fun e w' => e = .returned (.bool false) ∧ w' = w := by
 go_enter Tryz.func32, Tryz.ntmps32
 go_wp2
 go_ret
 exact ⟨rfl, rfl⟩
theorem xvalueOfP (t : Addr) (w : World) : (ReflectliteValue.unpack (.iface 86 (.pointer (some t)))).run Tryz.prog w
  = .ok (.agg #[.pointer (some ⟨9, 86, none⟩), .pointer (some ⟨w.heap.size, 0, none⟩), .int .u64 150]) (w.alloc (.cells #[.pointer (some t)] 86)) := by kernel_rfl
theorem xtypeP (a : Addr) (w : World) : (ReflectliteValue.methodAny (ReflectliteValue.valueError "reflectlite.Value.Type" 0) (fun t _ _ _ => ReflectliteType.toType t) #[.agg #[.pointer (some ⟨9, 86, none⟩), .pointer (some a), .int .u64 150]]).run Tryz.prog w
  = .ok (.iface 177 (.agg #[.pointer (some ⟨9, 86, none⟩)])) w := by kernel_rfl
theorem xkindP (w : World) : ((ReflectliteType.abiMethod fun t => (fun a : Nat => Value.int IntKind.u8 (a : Int)) <$> Rtype.kind t) #[.pointer (some ⟨9, 86, none⟩)]).run Tryz.prog w = .ok (.int .u8 22) w := by kernel_rfl
theorem xkindE (w : World) : ((ReflectliteType.abiMethod fun t => (fun a : Nat => Value.int IntKind.u8 (a : Int)) <$> Rtype.kind t) #[.pointer (some ⟨9, 84, none⟩)]).run Tryz.prog w = .ok (.int .u8 25) w := by kernel_rfl
theorem xelemP (w : World) : (ReflectliteType.method ReflectliteType.elem #[.agg #[.pointer (some ⟨9, 86, none⟩)]]).run Tryz.prog w = .ok (.iface 177 (.agg #[.pointer (some ⟨9, 84, none⟩)])) w := by kernel_rfl
theorem ximplE (w : World) : (ReflectliteType.relation "Implements" ReflectliteType.implements_ #[.agg #[.pointer (some ⟨9, 84, none⟩)], .iface 177 (.agg #[.pointer (some ⟨9, 80, none⟩)])]).run Tryz.prog w = .ok (.bool true) w := by kernel_rfl
theorem xtypeOfE (v : Value) (w : World) : (ReflectliteType.typeOf #[.iface 84 v]).run Tryz.prog w = .ok (.iface 177 (.agg #[.pointer (some ⟨9, 84, none⟩)])) w := by kernel_rfl
theorem xassE (w : World) : (ReflectliteType.relation "AssignableTo" ReflectliteType.assignableTo #[.agg #[.pointer (some ⟨9, 84, none⟩)], .iface 177 (.agg #[.pointer (some ⟨9, 84, none⟩)])]).run Tryz.prog w = .ok (.bool true) w := by kernel_rfl
theorem xvalueOfE (e : Int) (w : World) : (ReflectliteValue.unpack (.iface 84 (.agg #[.int .i64 e]))).run Tryz.prog w
  = .ok (.agg #[.pointer (some ⟨9, 84, none⟩), .pointer (some ⟨w.heap.size, 0, none⟩), .int .u64 153]) (w.alloc (.cells #[.int .i64 e] 84)) := by kernel_rfl
theorem xelemOfP (w : World) : (Rtype.elem? 86).run Tryz.prog w = .ok (some 84) w := by kernel_rfl
theorem xmkE (p : Addr) (w : World) : (ReflectliteValue.mk 84 p ReflectliteValue.flagAddr).run Tryz.prog w = .ok (.agg #[.pointer (some ⟨9, 84, none⟩), .pointer (some p), .int .u64 409]) w := by kernel_rfl
theorem xpartsP (a : Addr) (w : World) : (ReflectliteValue.parts (.agg #[.pointer (some ⟨9, 86, none⟩), .pointer (some a), .int .u64 150])).run Tryz.prog w = .ok (some (86, a, 150)) w := by kernel_rfl
theorem xpartsEa (a : Addr) (w : World) : (ReflectliteValue.parts (.agg #[.pointer (some ⟨9, 84, none⟩), .pointer (some a), .int .u64 409])).run Tryz.prog w = .ok (some (84, a, 409)) w := by kernel_rfl
theorem xpartsE (a : Addr) (w : World) : (ReflectliteValue.parts (.agg #[.pointer (some ⟨9, 84, none⟩), .pointer (some a), .int .u64 153])).run Tryz.prog w = .ok (some (84, a, 153)) w := by kernel_rfl
theorem xdirE (w : World) : (Rtype.directlyAssignable 84 84).run Tryz.prog w = .ok true w := by kernel_rfl
theorem xsizeE (w : World) : (sizeOf 84).run Tryz.prog w = .ok 1 w := by kernel_rfl
theorem rlm_ (z : Sem Value) (f : TypeId → Addr → Nat → Nat → Sem Value) (v : Value) :
  ReflectliteValue.method z f #[v] = (do match ← ReflectliteValue.parts v with | none => z | some (t, a, fl) => f t a fl (fl % 32)) := rfl
/-- (Value).IsNil at the Value of a pointer that is not nil. -/
theorem xisNilP (a p : Addr) (W : World) (ha : W.cell? a = some (.pointer (some p))) :
  (ReflectliteValue.method (ReflectliteValue.valueError "reflectlite.Value.IsNil" 0) ReflectliteValue.isNil #[.agg #[.pointer (some ⟨9, 86, none⟩), .pointer (some a), .int .u64 150]]).run Tryz.prog W = .ok (.bool false) W := by
 rw [rlm_]
 simp only [Sem.run_bind, xpartsP, Result.andThen]
 simp [ReflectliteValue.isNil, loadVar, isAgg, underlying, Tryz.underlying86, ha, Result.andThen]
theorem xmElem (h : Value) (w : World) (n : Nat) : (Go.method (n + 1) 177 (.agg #[h]) "Elem").run Tryz.prog w = .ok (196, .agg #[h]) w := by kernel_rfl
theorem xmImpl (h : Value) (w : World) (n : Nat) : (Go.method (n + 1) 177 (.agg #[h]) "Implements").run Tryz.prog w = .ok (197, .agg #[h]) w := by kernel_rfl
theorem xmAss (h : Value) (w : World) (n : Nat) : (Go.method (n + 1) 177 (.agg #[h]) "AssignableTo").run Tryz.prog w = .ok (194, .agg #[h]) w := by kernel_rfl
theorem xmKind (h : Value) (w : World) (n : Nat) : (Go.method (n + 1) 177 (.agg #[h]) "Kind").run Tryz.prog w = .ok (185, h) w := by kernel_rfl
/-- (Value).Elem at that Value: the Value of the variable that it points to, addressable. -/
theorem xelemVP (a p : Addr) (W : World) (ha : W.cell? a = some (.pointer (some p))) :
  (ReflectliteValue.method (ReflectliteValue.valueError "reflectlite.Value.Elem" 0) ReflectliteValue.elem #[.agg #[.pointer (some ⟨9, 86, none⟩), .pointer (some a), .int .u64 150]]).run Tryz.prog W
   = .ok (.agg #[.pointer (some ⟨9, 84, none⟩), .pointer (some p), .int .u64 409]) W := by
 rw [rlm_]
 simp only [Sem.run_bind, xpartsP, Result.andThen]
 simp [ReflectliteValue.elem, loadVar, isAgg, underlying, Tryz.underlying86, ha, Result.andThen, xelemOfP, xmkE]
theorem rls_ (v x : Value) : ReflectliteValue.set #[v, x] = (do
  let (some (dst, a, fl), some (src, b, _)) := (← ReflectliteValue.parts v, ← ReflectliteValue.parts x)
   | unsupported (.noEntry "extern/(internal/reflectlite.Value).Set.zeroValue")
  if fl / ReflectliteValue.flagAddr % 2 == 0 then unsupported (.noEntry "extern/(internal/reflectlite.Value).Set.unaddressable")
  let val ← loadVar src b
  if ← Rtype.directlyAssignable dst src then storeVar dst a val
  else if ← Rtype.implements dst src then
   if (← Rtype.kind src) == 20 then
    match val with
    | .nilIface => unsupported (.noEntry "extern/reflectlite: a nil value of one interface type handed on as a value of another")
    | _ => storeVar dst a val
   else storeVar dst a (.iface src val)
  else panicString ("reflectlite.Set: value of type " ++ (← Rtype.spelt src) ++ " is not assignable to type " ++ (← Rtype.spelt dst))
  pure (.tuple #[])) := rfl
/-- (Value).Set: the variable gets what the Value's own variable holds. -/
theorem xset {X : List Nat} {w0 W : World} {es : List Ent} (hF : Fr X w0 W es) {i j gt gb : Nat} {old : Value} {e : Int} (hi : es[i]? = some (.blk gt 84 [old])) (hj : es[j]? = some (.blk gb 84 [.int .i64 e])) :
  ∃ W2, (ReflectliteValue.set #[.agg #[.pointer (some ⟨9, 84, none⟩), .pointer (some ⟨gt, 0, none⟩), .int .u64 409], .agg #[.pointer (some ⟨9, 84, none⟩), .pointer (some ⟨gb, 0, none⟩), .int .u64 153]]).run Tryz.prog W = .ok (.tuple #[]) W2 ∧ Fr X w0 W2 (es.set i (.blk gt 84 [.int .i64 e])) := by
 have hld := run_loadF (P := Tryz.prog) hF hj Tryz.underlying84 rfl (by kernel_rfl)
 obtain ⟨hr, hF'⟩ := run_storeF (P := Tryz.prog) hF hi (off := 0) (ds := [.int .i64 e]) (by simp) (by simp; rfl)
 refine ⟨_, ?_, hF'⟩
 rw [rls_]
 simp only [Sem.run_bind, xpartsEa, xpartsE, Result.andThen]
 simp [ReflectliteValue.flagAddr, hld, Result.andThen, xdirE, storeVar, xsizeE, Value.cells, hr]
set_option maxRecDepth 20000 in
set_option maxHeartbeats 4000000 in
theorem xas_hit {X : List Nat} {w0 w : World} {es : List Ent} (hF : Fr X w0 w es) {i gt : Nat} {old : Value} (e : Int) (hi : es[i]? = some (.blk gt 84 [old])) (hg : w.cell? ⟨0, 0, none⟩ = some (.iface 177 (.agg #[.pointer (some ⟨9, 80, none⟩)]))) :
  Calls Tryz.prog 32 #[.iface 84 (.agg #[.int .i64 e]), .iface 86 (.pointer (some ⟨gt, 0, none⟩))] w fun ev w' => ev = .returned (.bool true) ∧ Fr X w0 w' (es.set i (.blk gt 84 [.int .i64 e])) := by
 have hF1 := hF.alloc 86 [.pointer (some ⟨gt, 0, none⟩)]
 have hF2 := hF1.alloc 135 [.pointer (some ⟨9, 86, none⟩), .pointer (some ⟨w.heap.size, 0, none⟩), .int .u64 150]
 have hF3 := hF2.alloc 135 [.pointer (some ⟨9, 86, none⟩), .pointer (some ⟨w.heap.size, 0, none⟩), .int .u64 150]
 have hF4 := hF3.alloc 84 [.int .i64 e]
 obtain ⟨W2, st, hF5⟩ := xset hF4 (i := i + 4) (j := 0) hi rfl
 have hsz : (((w.alloc (.cells ([.pointer (some ⟨gt, 0, none⟩)] : List Value).toArray 86)).alloc (.cells ([.pointer (some ⟨9, 86, none⟩), .pointer (some ⟨w.heap.size, 0, none⟩), .int .u64 150] : List Value).toArray 135)).alloc (.cells ([.pointer (some ⟨9, 86, none⟩), .pointer (some ⟨w.heap.size, 0, none⟩), .int .u64 150] : List Value).toArray 135)).heap.size = w.heap.size + 1 + 1 + 1 := by simp
 rw [hsz] at st
 have hF6 : Fr X w0 W2 (es.set i (.blk gt 84 [.int .i64 e])) := hF5.tail.tail.tail.tail
 have h67 := @run_callFunc_extern Tryz.prog 67 _ (fun args => ReflectliteValue.unpack (args.getD 0 (.tuple #[]))) Tryz.func67 (by kernel_rfl) (by kernel_rfl) (by kernel_rfl) (by kernel_rfl)
 have h68 := @run_callFunc_extern Tryz.prog 68 _ (ReflectliteValue.methodAny (ReflectliteValue.valueError "reflectlite.Value.Type" 0) (fun t _ _ _ => ReflectliteType.toType t)) Tryz.func68 (by kernel_rfl) (by kernel_rfl) (by kernel_rfl) (by kernel_rfl)
 have h69 := @run_callFunc_extern Tryz.prog 69 _ (ReflectliteValue.method (ReflectliteValue.valueError "reflectlite.Value.IsNil" 0) ReflectliteValue.isNil) Tryz.func69 (by kernel_rfl) (by kernel_rfl) (by kernel_rfl) (by kernel_rfl)
 have h185 := @run_callFunc_extern Tryz.prog 185 _ (ReflectliteType.abiMethod fun t => do pure (.int .u8 (← Rtype.kind t))) Tryz.func185 (by kernel_rfl) (by kernel_rfl) (by kernel_rfl) (by kernel_rfl)
 have h196 := @run_callFunc_extern Tryz.prog 196 _ (ReflectliteType.method ReflectliteType.elem) Tryz.func196 (by kernel_rfl) (by kernel_rfl) (by kernel_rfl) (by kernel_rfl)
 have h197 := @run_callFunc_extern Tryz.prog 197 _ (ReflectliteType.relation "Implements" ReflectliteType.implements_) Tryz.func197 (by kernel_rfl) (by kernel_rfl) (by kernel_rfl) (by kernel_rfl)
 have h95 := @run_callFunc_extern Tryz.prog 95 _ (ReflectliteType.typeOf) Tryz.func95 (by kernel_rfl) (by kernel_rfl) (by kernel_rfl) (by kernel_rfl)
 have h194 := @run_callFunc_extern Tryz.prog 194 _ (ReflectliteType.relation "AssignableTo" ReflectliteType.assignableTo) Tryz.func194 (by kernel_rfl) (by kernel_rfl) (by kernel_rfl) (by kernel_rfl)
 have h96 := @run_callFunc_extern Tryz.prog 96 _ (ReflectliteValue.method (ReflectliteValue.valueError "reflectlite.Value.Elem" 0) ReflectliteValue.elem) Tryz.func96 (by kernel_rfl) (by kernel_rfl) (by kernel_rfl) (by kernel_rfl)
 have h97 := @run_callFunc_extern Tryz.prog 97 _ (ReflectliteValue.set) Tryz.func97 (by kernel_rfl) (by kernel_rfl) (by kernel_rfl) (by kernel_rfl)
 have tO := xtypeOfE
 have mA := xmAss
 have aE := xassE
 have vE := xvalueOfE
 have fP := xvalueOfP
 have tP := xtypeP
 have mK := xmKind
 have mE := xmElem
 have mI := xmImpl
 have kP := xkindP
 have kE := xkindE
 have eP := xelemP
 have iE := ximplE
 have hlt : 0 < w.heap.size := by
  rcases Nat.eq_zero_or_pos w.heap.size with h0 | h
  ·simp [World.cell?, h0] at hg
  ·exact h
 have n8 := xisNilP ⟨w.heap.size, 0, none⟩ ⟨gt, 0, none⟩ ((w.alloc (.cells #[.pointer (some ⟨gt, 0, none⟩)] 86)).alloc (.cells #[.pointer (some ⟨9, 86, none⟩), .pointer (some ⟨w.heap.size, 0, none⟩), .int .u64 150] 135)) (by simp)
 have hg2 : ((w.alloc (.cells #[.pointer (some ⟨gt, 0, none⟩)] 86)).alloc (.cells #[.pointer (some ⟨9, 86, none⟩), .pointer (some ⟨w.heap.size, 0, none⟩), .int .u64 150] 135)).cell? ⟨0, 0, none⟩ = some (.iface 177 (.agg #[.pointer (some ⟨9, 80, none⟩)])) := by
  rw [World.cell?_alloc_lt _ _ ⟨0, 0, none⟩ (by simp), World.cell?_alloc_lt _ _ ⟨0, 0, none⟩ hlt]; exact hg
 have el := xelemVP ⟨w.heap.size, 0, none⟩ ⟨gt, 0, none⟩ (((w.alloc (.cells #[.pointer (some ⟨gt, 0, none⟩)] 86)).alloc (.cells #[.pointer (some ⟨9, 86, none⟩), .pointer (some ⟨w.heap.size, 0, none⟩), .int .u64 150] 135)).alloc (.cells #[.pointer (some ⟨9, 86, none⟩), .pointer (some ⟨w.heap.size, 0, none⟩), .int .u64 150] 135)) (by rw [World.cell?_alloc_lt _ _ ⟨w.heap.size, 0, none⟩ (by simp; omega)]; simp)
 clear hF hF1 hF2 hF3 hF4 hF5
 replace hF6 := box hF6
 go_enter Tryz.func32, Tryz.ntmps32
 go_wp2
 refine wp_loop_rounds 1 ?_
 rw [rounds_succ]
 go_wp2
 go_ret
 exact ⟨rfl, hF6.out⟩
end Go.Proofs.YtlhicfpmlncomaaGreatDoor

namespace Go.Proofs.YtlhicfpmlncomaaGreatDoor
set_option linter.unusedSimpArgs false
set_option linter.unusedVariables false
/-- A fault has a number. -/
def JEr {α : Type} (r : JR α) : Prop := ∀ x, r = .error x → x.2 ≠ 0
theorem JEr.ok {α : Type} {v : α} : JEr (.ok v) := fun _ h => by cases h
theorem JEr.err {α : Type} {p e : Nat} (h : e ≠ 0) : JEr (.error (p, e) : JR α) := fun _ h' => by injection h' with h'; subst h'; exact h
theorem JEr.up {α β : Type} {r : JR α} {x : Nat × Nat} (h : JEr r) (hx : r = .error x) : JEr (.error x : JR β) := fun y h' => by injection h' with h'; subst h'; exact h _ hx
theorem jNext_er (b : List UInt8) (p : Nat) : JEr (jNext b p) := by
 unfold jNext
 split
 ·exact .err (by decide)
 ·exact .ok
theorem jWord_er (b : List UInt8) : ∀ (w : List UInt8) (p : Nat), JEr (jWord b w p)
 | [], p => .ok
 | c :: w, p => by
  rw [jWord]
  split
  ·exact .err (by decide)
  ·split
   ·exact jWord_er b w _
   ·exact .err (by decide)
theorem jNumber_er (b : List UInt8) (p : Nat) : JEr (jNumber b p) := by
 unfold jNumber
 simp only []
 split
 ·exact .err (by decide)
 ·exact .ok
theorem jUnit_er (b : List UInt8) (s : Nat) : ∀ (k n p : Nat), JEr (jUnit b s k n p)
 | 0, _, _ => .ok
 | k + 1, n, p => by
  rw [jUnit]
  split
  ·exact .err (by decide)
  ·split
   ·exact .err (by decide)
   ·exact jUnit_er b s k _ _
theorem jEscape_er (b : List UInt8) (p : Nat) : JEr (jEscape b p) := by
 unfold jEscape
 split
 ·exact .err (by decide)
 rename_i c _
 by_cases h1 : c = 34 ∨ c = 92 ∨ c = 47
 ·rw [if_pos h1]; exact .ok
 rw [if_neg h1]
 by_cases h2 : c = 98
 ·rw [if_pos h2]; exact .ok
 rw [if_neg h2]
 by_cases h2 : c = 102
 ·rw [if_pos h2]; exact .ok
 rw [if_neg h2]
 by_cases h2 : c = 110
 ·rw [if_pos h2]; exact .ok
 rw [if_neg h2]
 by_cases h2 : c = 114
 ·rw [if_pos h2]; exact .ok
 rw [if_neg h2]
 by_cases h2 : c = 116
 ·rw [if_pos h2]; exact .ok
 rw [if_neg h2]
 by_cases h2 : c = 117
 ·rw [if_pos h2]
  split
  ·rename_i h; exact (jUnit_er _ _ _ _ _).up h
  split
  ·split
   ·exact .err (by decide)
   split
   ·exact .err (by decide)
   split
   ·exact .err (by decide)
   split
   ·exact .err (by decide)
   split
   ·rename_i h; exact (jUnit_er _ _ _ _ _).up h
   split
   ·exact .ok
   ·exact .err (by decide)
  ·split
   ·exact .err (by decide)
   ·exact .ok
 ·rw [if_neg h2]; exact .err (by decide)
theorem jTextL_er (b : List UInt8) : ∀ (f p : Nat) (out : List UInt8), JEr (jTextL b f p out)
 | 0, _, _ => .err (by decide)
 | f + 1, p, out => by
  rw [jTextL]
  repeat' split
  all_goals first
   | exact .ok
   | exact .err (by decide)
   | exact (jEscape_er _ _).up (by assumption)
   | exact jTextL_er b f _ _
theorem jText_er (b : List UInt8) (p : Nat) : JEr (jText b p) := by
 unfold jText
 split
 ·exact (jWord_er _ _ _).up (by assumption)
 ·exact jTextL_er _ _ _ _
theorem jName_er (b : List UInt8) (ns : List (List UInt8)) (p : Nat) : JEr (jName b ns p) := by
 unfold jName
 repeat' split
 all_goals first
  | exact .ok
  | exact .err (by decide)
  | exact (jText_er _ _).up (by assumption)
  | exact (jWord_er _ _ _).up (by assumption)
theorem jManyL_er (b : List UInt8) (kind : Int) (fin : UInt8) {val : Nat → Nat → JR (JV × Nat × Nat)} (hv : ∀ p m, JEr (val p m)) : ∀ (f p m : Nat) (ns : List (List UInt8)) (ks : List JV), JEr (jManyL b kind fin val f p m ns ks)
 | 0, _, _, _, _ => .err (by decide)
 | f + 1, p, m, ns, ks => by
  rw [jManyL]
  have hn : JEr (if kind = 6 then jName b ns p else .ok ([], p)) := by
   split
   ·exact jName_er _ _ _
   ·exact .ok
  split
  ·exact hn.up (by assumption)
  split
  ·exact (hv _ _).up (by assumption)
  split
  ·exact (jNext_er _ _).up (by assumption)
  split
  ·exact .ok
  split
  ·exact (jWord_er _ _ _).up (by assumption)
  ·exact jManyL_er b kind fin hv f _ _ _ _
theorem jMany_er (b : List UInt8) (kind : Int) (fin : UInt8) {val : Option (Nat → Nat → JR (JV × Nat × Nat))} (hv : ∀ f, val = some f → ∀ p m, JEr (f p m)) (p m : Nat) : JEr (jMany b kind fin val p m) := by
 unfold jMany
 split
 ·exact .err (by decide)
 ·split
  ·exact (jNext_er _ _).up (by assumption)
  ·split
   ·exact .ok
   ·exact jManyL_er b kind fin (hv _ rfl) _ _ _ _ _
theorem jLit_er (b w : List UInt8) (v : JV) (p m : Nat) : JEr (jLit b w v p m) := by
 unfold jLit
 split
 ·exact (jWord_er _ _ _).up (by assumption)
 ·exact .ok
theorem jValueW_er (b : List UInt8) {val : Option (Nat → Nat → JR (JV × Nat × Nat))} (hv : ∀ f, val = some f → ∀ p m, JEr (f p m)) (p m : Nat) : JEr (jValueW b val p m) := by
 unfold jValueW
 split
 ·exact .err (by decide)
 repeat' split
 all_goals first
  | exact .ok
  | exact .err (by decide)
  | exact jLit_er _ _ _ _ _
  | exact (jNumber_er _ _).up (by assumption)
  | exact (jText_er _ _).up (by assumption)
  | exact jMany_er _ _ _ hv _ _
theorem jValue_er (b : List UInt8) : ∀ (d p m : Nat), JEr (jValue b d p m)
 | 0, p, m => by rw [jValue]; exact jValueW_er b (fun f h => by cases h) p m
 | d + 1, p, m => by rw [jValue]; exact jValueW_er b (fun f h => by injection h with h; subst h; exact jValue_er b d) p m
theorem jParse_er (b : List UInt8) : JEr (jParse b) := by
 unfold jParse
 split
 ·exact .err (by decide)
 ·split
  ·exact (jValue_er _ _ _ _).up (by assumption)
  ·split
   ·exact .err (by decide)
   ·exact .ok
end Go.Proofs.YtlhicfpmlncomaaGreatDoor

namespace Go.Proofs.YtlhicfpmlncomaaGreatDoor
open Go.RowKit
set_option linter.unusedSimpArgs false
set_option linter.unusedVariables false
theorem MaxAt.up {B B' : Nat} {w : World} (h : MaxAt B w) (hb : B ≤ B') : MaxAt B' w := fun w' h2 => h w' (h2.mono hb)
/-- The library's variable errorType holds what it was laid with. -/
def ErrAt (B : Nat) (w : World) : Prop := ∀ w', Below B w w' → w'.cell? ⟨0, 0, none⟩ = some (.iface 177 (.agg #[.pointer (some ⟨9, 80, none⟩)]))
theorem ErrAt.on {B : Nat} {w w' : World} (h : ErrAt B w) (hb : Below B w w') : ErrAt B w' := fun w'' h2 => h w'' (hb.trans h2)
theorem ErrAt.up {B B' : Nat} {w : World} (h : ErrAt B w) (hb : B ≤ B') : ErrAt B' w := fun w' h2 => h w' (h2.mono hb)
/-- What the library's variables hold. -/
structure MLibs (B : Nat) (w : World) : Prop where
 j : LibsAt B w
 m : MaxAt B w
 e : ErrAt B w
theorem MLibs.on {B : Nat} {w w' : World} (h : MLibs B w) (hb : Below B w w') : MLibs B w' := ⟨h.j.on hb, h.m.on hb, h.e.on hb⟩
theorem MLibs.up {B B' : Nat} {w : World} (h : MLibs B w) (hb : B ≤ B') : MLibs B' w := ⟨h.j.up hb, h.m.up hb, h.e.up hb⟩
theorem VT.rdS {v : JV} {cs : List Value} {es' es : List Ent} {X : List Nat} {w0 w : World} (h : VT v cs es') (hF : Fr X w0 w es) (hs : ∀ e ∈ es', e ∈ es) : VRd w (· < w.heap.size) v cs :=
 VT.rd v h fun e he => by
  obtain ⟨i, hi⟩ := List.mem_iff_getElem?.1 (hs e he)
  exact ⟨hF.holds i e hi, fun b hb => Ent.lt (hF.holds i e hi) hb⟩
def mCode {α : Type} (r : MR α) : Nat := match r with
 | .ok _ => 0
 | .error e => e
/-- What Parse tells. -/
def MPs (w : World) (r : MR MDoc) (e : Ending) (w' : World) : Prop := ∃ cs es, e = .returned (.tuple #[.agg cs.toArray, .int .i64 (mCode r : Int)]) ∧ VDoc (mDc r) cs es ∧ Fr [] w w' es
set_option maxRecDepth 20000 in
set_option maxHeartbeats 6400000 in
theorem mparse_any (A : Option Addr) (n c : Nat) (b : List UInt8) (w : World) (hL : MLibs w.heap.size w) (hnc : n ≤ c) (hn47 : n ≤ 140737488355328) (hr : Rd w (· < w.heap.size) A 1 n (b.map bv)) :
  Calls Tryz.prog 11 #[.slice A n c] w (MPs w (mParse b)) := by
 have hF0 := Fr.nil w
 have hJ : mParse b = match jParse b with
  | .ok v => mRead v
  | .error x => .error x.2 := rfl
 have hpa := box (fun w' (es : List Ent) (hF : Fr [] w w' es) => parse_F hF (hL.j.on hF.below) hF.below.size hnc hn47 (hr.on hF.below))
 replace hn47 := box hn47
 cases hj : jParse b with
 | error x =>
  have hx2 := jParse_er b x hj
  rw [hj] at hJ
  simp only [] at hJ
  have hq : ((x.2 : Int) != 0) = true := by rw [bne_iff_ne]; omega
  have hpa' := hpa.out
  unfold ParseEndF at hpa'
  rw [hj] at hpa'
  simp only [] at hpa'
  replace hpa' := box hpa'
  replace hJ := box hJ
  clear hpa hj hx2
  go_enter Tryz.func11, Tryz.ntmps11
  go_wp2_with (first | ((with_reducible refine lsx (wp_falloc hF0 (cs := doc0) (z := .agg (List.toArray (doc0))) rfl (by kernel_rfl) (by with_unfolding_all rfl) ?_)); intro w1 g1 hF1 hz1))
  refine (hpa'.out _ _ hF1).mono ?_
  rintro e w2 ⟨rfl, hF2⟩
  clear hpa'
  go_wp2_with (first | ((with_reducible refine lsx (wp_falloc hF2 (cs := vl0) (z := .agg (List.toArray (vl0))) rfl (by kernel_rfl) (by with_unfolding_all rfl) ?_)); intro w3 g3 hF3 hz3) | ((with_reducible refine lsx (wp_fstA0 hF3 (by with_unfolding_all exact ⟨_, _, rfl, rfl, rfl⟩) (by rw [vlL_len]; kernel_rfl) vlL_one vlL_fit vlL_spl ?_)); intro w4 hF4 hz4) | (with_reducible refine lsx (wp_fbuild Tryz.underlying31 (z := .agg (List.toArray doc0)) (by kernel_rfl) (pl := docP) (by kernel_rfl) (cs := doc0) rfl (vs := []) (by with_unfolding_all rfl) (by with_unfolding_all rfl) ?_)) | ((with_reducible refine lsx (wp_fstA1 hF4 (by with_unfolding_all exact ⟨_, _, rfl, rfl, rfl⟩) (by rw [doc0_len]; kernel_rfl) doc0_one (Nat.le_of_eq (Nat.zero_add _)) (spl_all rfl) ?_)); intro w5 hF5 hz5))
  exact bodyPost_ret (results_cellF2 rfl _ hF5 (i := 1) rfl rfl Tryz.underlying31 rfl (by rw [doc0_len]; kernel_rfl)) rfl (by
   unfold MPs
   rw [hJ.out]
   exact ⟨_, _, rfl, VDoc.zero, hF5⟩)
 | ok v =>
  rw [hj] at hJ
  simp only [] at hJ
  have hob := jParse_ob hj
  have hpa' := hpa.out
  unfold ParseEndF at hpa'
  rw [hj] at hpa'
  simp only [] at hpa'
  replace hpa' := box hpa'
  clear hpa hj
  obtain ⟨R, hR⟩ : ∃ R, R = mRead v := ⟨_, rfl⟩
  rw [← hR] at hJ
  replace hJ := box hJ
  go_enter Tryz.func11, Tryz.ntmps11
  go_wp2_with (first | ((with_reducible refine lsx (wp_falloc hF0 (cs := doc0) (z := .agg (List.toArray (doc0))) rfl (by kernel_rfl) (by with_unfolding_all rfl) ?_)); intro w1 g1 hF1 hz1))
  refine (hpa'.out _ _ hF1).mono ?_
  rintro e w2 ⟨cs, es, rfl, hvt, hF2'⟩
  have hF2 := hF2'.perm (es' := .blk g1 31 doc0 :: es) List.perm_append_comm
  have hvl := box hvt.len
  have hvo := box hvt.one
  replace hvt := box hvt
  clear hpa' hF2'
  go_wp2_with (first | ((with_reducible refine lsx (wp_falloc hF2 (cs := vl0) (z := .agg (List.toArray (vl0))) rfl (by kernel_rfl) (by with_unfolding_all rfl) ?_)); intro w3 g3 hF3 hz3) | ((with_reducible refine lsx (wp_fstA0 hF3 (by with_unfolding_all exact ⟨_, _, rfl, rfl, rfl⟩) (by rw [hvl.out]; kernel_rfl) hvo.out (by rw [hvl.out]; decide) (spl_all (by rw [hvl.out, vlL_len])) ?_)); intro w4 hF4 hz4) | (with_reducible refine lsx (wp_fldA0 hF4 Tryz.underlying76 rfl (by with_unfolding_all exact ⟨_, rfl, rfl⟩) (ds := cs) (by rw [hvl.out]; kernel_rfl) (take_all _) ?_)))
  have hrd := mread_any v cs w4 ((hL.on hF4.below).up hF4.below.size).m (hvt.out.rdS hF4 (by intro e he; simp [he])) hob
  rw [← hR] at hrd
  replace hrd := box hrd
  clear hR hob
  refine hrd.out.mono ?_
  rintro e w5 ⟨cd, ed, rfl, hD, h5⟩
  have hF5 := hF4.joinR h5
  simp only [List.cons_append] at hF5
  have hdl := box hD.len
  have hdo := box hD.ones
  clear hrd h5
  cases R with
  | ok d =>
   simp only [mErr]
   replace hD := box hD
   go_wp2_with (first | ((with_reducible refine lsx (wp_falloc hF5 (cs := doc0) (z := .agg (List.toArray (doc0))) rfl (by kernel_rfl) (by with_unfolding_all rfl) ?_)); intro w6 g6 hF6 hz6) | ((with_reducible refine lsx (wp_fstA0 hF6 (by with_unfolding_all exact ⟨_, _, rfl, rfl, rfl⟩) (by rw [hdl.out]; kernel_rfl) hdo.out (by rw [hdl.out, doc0_len]; decide) (spl_all (by rw [hdl.out, doc0_len])) ?_)); intro w7 hF7 hz7) | ((with_reducible refine lsx (wp_falloc hF7 (cs := [.int .i64 0]) (z := .agg (List.toArray ([.int .i64 0]))) rfl (by kernel_rfl) (by with_unfolding_all rfl) ?_)); intro w8 g8 hF8 hz8))
   refine (as_nil _ _).mono ?_
   rintro e w9 ⟨rfl, rfl⟩
   go_wp2_with (first | (with_reducible refine lsx (wp_fldA1 hF8 Tryz.underlying31 rfl (by with_unfolding_all exact ⟨_, rfl, rfl⟩) (ds := cd) (by rw [hdl.out]; kernel_rfl) (take_all _) ?_)) | ((with_reducible refine lsx (wp_fstA3 hF8 (by with_unfolding_all exact ⟨_, _, rfl, rfl, rfl⟩) (by rw [hdl.out]; kernel_rfl) hdo.out (by rw [hdl.out, doc0_len]; decide) (spl_all (by rw [hdl.out, doc0_len])) ?_)); intro w10 hF10 hz10))
   exact bodyPost_ret (results_cellF2 rfl _ hF10 (i := 3) rfl rfl Tryz.underlying31 rfl (by rw [hdl.out]; kernel_rfl)) rfl (by
    unfold MPs
    rw [hJ.out]
    exact ⟨_, _, rfl, hD.out.mono (fun _ h => by simp [h]), hF10⟩)
  | error ee =>
   simp only [mErr]
   clear hD
   go_wp2_with (first | ((with_reducible refine lsx (wp_falloc hF5 (cs := doc0) (z := .agg (List.toArray (doc0))) rfl (by kernel_rfl) (by with_unfolding_all rfl) ?_)); intro w6 g6 hF6 hz6) | ((with_reducible refine lsx (wp_fstA0 hF6 (by with_unfolding_all exact ⟨_, _, rfl, rfl, rfl⟩) (by rw [hdl.out]; kernel_rfl) hdo.out (by rw [hdl.out, doc0_len]; decide) (spl_all (by rw [hdl.out, doc0_len])) ?_)); intro w7 hF7 hz7) | ((with_reducible refine lsx (wp_falloc hF7 (cs := [.int .i64 0]) (z := .agg (List.toArray ([.int .i64 0]))) rfl (by kernel_rfl) (by with_unfolding_all rfl) ?_)); intro w8 g8 hF8 hz8))
   have hE := hL.e _ hF8.below
   refine (xas_hit hF8 (i := 0) (ee : Int) rfl hE).mono ?_
   rintro e w9 ⟨rfl, hF9⟩
   simp only [List.set_cons_zero] at hF9
   clear hE
   go_upto_region 7 with (fail)
   have hFd := hF9.drew
   clear hF9 hF8 hF7 hF6 hF5
   refine wp_region_held (S := fun w' => w'.heap[g8]? = some (.cells (List.toArray [.int .i64 (ee : Int)]) 84 (0, 0))) (by kernel_rfl) ?_
   change wpAnyH _ _ _ _ _ _ _ _ (World.drew _)
   refine tkp 0 (hFd.blk (i := 0) rfl) ?_
   (try simp only [zP, zQ, zS, zZ, zN])
   refine tkp 1 (hFd.blk (i := 0) rfl) ?_
   (try simp only [zP, zQ, zS, zZ, zN])
   refine tky 2 (y := yi_fld (by with_unfolding_all rfl) (fun _ h => h) Tryz.underlying32 rfl (by with_unfolding_all exact ⟨_, rfl, rfl⟩) rfl) (s := (hFd.blk (i := 0) rfl)) (h := ?_)
   (try simp only [zP, zQ, zS, zZ, zN])
   refine rdy1 3 (fun K hK => ?_)
   refine stp (by with_unfolding_all rfl) (wp_fstA hFd (i := 3) rfl (ds := doc0) (by with_unfolding_all exact ⟨_, _, rfl, rfl, rfl⟩) (by rw [doc0_len]; kernel_rfl) doc0_one (Nat.le_of_eq (Nat.zero_add _)) ?_)
   intro w31 hF31 hz31
   (try simp only [zZ, zN] at hF31)
   rw [(spl_all rfl : spl doc0 0 doc0 = doc0)] at hF31
   refine hK.out _ _ ((hF31.blk (i := 0) rfl)) (fun _ => ?_)
   clear hK K
   (try simp only [zP, zQ, zS, zZ, zN])
   refine tkp 4 (hF31.blk (i := 0) rfl) ?_
   (try simp only [zP, zQ, zS, zZ])
   refine wpAnyH_done (by kernel_rfl) ?_ _
   go_wp2_with fail
   exact bodyPost_ret (results_cellF2 rfl _ hF31 (i := 3) rfl rfl Tryz.underlying31 rfl (by rw [doc0_len]; kernel_rfl)) rfl (by
    unfold MPs
    rw [hJ.out]
    exact ⟨_, _, rfl, VDoc.zero, hF31⟩)
end Go.Proofs.YtlhicfpmlncomaaGreatDoor

namespace Go.Proofs.YtlhicfpmlncomaaGreatDoor
open Go.RowKit
set_option linter.unusedSimpArgs false
set_option linter.unusedVariables false
def awkB : List UInt8 := [123, 34, 115, 99, 104, 101, 109, 97, 86, 101, 114, 115, 105, 111, 110, 34, 58, 50, 44, 34, 109, 101, 100, 105, 97, 84, 121, 112, 101, 34, 58, 34, 97, 112, 112, 108, 105, 99, 97, 116, 105, 111, 110, 47, 118, 110, 100, 46, 111, 99, 105, 46, 105, 109, 97, 103, 101, 46, 105, 110, 100, 101, 120, 46, 118, 49, 43, 106, 115, 111, 110, 34, 44, 34, 109, 97, 110, 105, 102, 101, 115, 116, 115, 34, 58, 91, 93, 125]
theorem mawk1 : mParse awkB = .ok ⟨[97, 112, 112, 108, 105, 99, 97, 116, 105, 111, 110, 47, 118, 110, 100, 46, 111, 99, 105, 46, 105, 109, 97, 103, 101, 46, 105, 110, 100, 101, 120, 46, 118, 49, 43, 106, 115, 111, 110], [], .zero, [], .zero, false, []⟩ := by kernel_rfl
theorem mawk2 : mParse [91, 93] = .error 80 := by kernel_rfl
set_option maxRecDepth 20000 in
set_option maxHeartbeats 6400000 in
theorem mawake_any (w : World) (B : Nat) (hB : B ≤ w.heap.size) (hL : MLibs B w) :
  Calls Tryz.prog 13 #[] w fun e w' => e = .returned (.bool true) ∧ Below w.heap.size w w' := by
 have hF0 := Fr.nil w
 have hL1 := hL.up hB
 go_enter Tryz.func13, Tryz.ntmps13
 go_wp2_with (first | ((with_reducible refine lsx (wp_fbsl T_u8 hF0 (vs := [bv 123, bv 34, bv 115, bv 99, bv 104, bv 101, bv 109, bv 97, bv 86, bv 101, bv 114, bv 115, bv 105, bv 111, bv 110, bv 34, bv 58, bv 50, bv 44, bv 34, bv 109, bv 101, bv 100, bv 105, bv 97, bv 84, bv 121, bv 112, bv 101, bv 34, bv 58, bv 34, bv 97, bv 112, bv 112, bv 108, bv 105, bv 99, bv 97, bv 116, bv 105, bv 111, bv 110, bv 47, bv 118, bv 110, bv 100, bv 46, bv 111, bv 99, bv 105, bv 46, bv 105, bv 109, bv 97, bv 103, bv 101, bv 46, bv 105, bv 110, bv 100, bv 101, bv 120, bv 46, bv 118, bv 49, bv 43, bv 106, bv 115, bv 111, bv 110, bv 34, bv 44, bv 34, bv 109, bv 97, bv 110, bv 105, bv 102, bv 101, bv 115, bv 116, bv 115, bv 34, bv 58, bv 91, bv 93, bv 125]) (by with_unfolding_all rfl) (by with_unfolding_all rfl) (by with_unfolding_all rfl) (by decide) (by simp [bv, Value.cells]) ?_)); intro w1 g1 hF1 hz1; have hr1 : Rd w1 (· < w1.heap.size) (some ⟨g1, 0, none⟩) 1 88 (([123,34,115,99,104,101,109,97,86,101,114,115,105,111,110,34,58,50,44,34,109,101,100,105,97,84,121,112,101,34,58,34,97,112,112,108,105,99,97,116,105,111,110,47,118,110,100,46,111,99,105,46,105,109,97,103,101,46,105,110,100,101,120,46,118,49,43,106,115,111,110,34,44,34,109,97,110,105,102,101,115,116,115,34,58,91,93,125] : List UInt8).map bv) := hF1.rdOwn (i := 0) rfl) | ((with_reducible refine lsx (wp_fmark T_u8 Tryz.underlying5 hF1 (by with_unfolding_all exact ⟨_, rfl, rfl⟩) ?_)); intro w2 hF2 hz2))
 have hp := mparse_any (some ⟨g1, 0, none⟩) 88 88 awkB w2 ((hL1.on hF2.below).up hF2.below.size) (Nat.le_refl _) (by decide) (hF2.rd (i := 0) rfl)
 rw [mawk1] at hp
 replace hp := box hp
 refine hp.out.mono ?_
 rintro e w3 ⟨cs, es, rfl, hD, h3⟩
 have hF3 := hF2.joinR h3
 simp only [List.cons_append, List.nil_append] at hF3
 obtain ⟨cf, eg, sj, nt, hC, ⟨A, n, c, xs, hnc, hn0, rfl, _, _⟩, hS, hN, rfl⟩ := hD
 simp only [mDc, List.length_nil] at hn0
 subst hn0
 have hcl := box hC.len
 have hsl := box hS.len
 have hco := box hC.ones
 have hso := box hS.ones
 have hno := hN.one
 simp only [mDc]
 clear hp h3 hC hS hN hF1 hF2
 have hdl := box (docL_len (m := [97, 112, 112, 108, 105, 99, 97, 116, 105, 111, 110, 47, 118, 110, 100, 46, 111, 99, 105, 46, 105, 109, 97, 103, 101, 46, 105, 110, 100, 101, 120, 46, 118, 49, 43, 106, 115, 111, 110]) (t := []) (eg := .slice A 0 c) (has := false) (nt := nt) hcl.out hsl.out)
 have hdo := box (docL_one (m := [97, 112, 112, 108, 105, 99, 97, 116, 105, 111, 110, 47, 118, 110, 100, 46, 111, 99, 105, 46, 105, 109, 97, 103, 101, 46, 105, 110, 100, 101, 120, 46, 118, 49, 43, 106, 115, 111, 110]) (t := []) (has := false) hco.out hso.out (rfl : (Value.slice A 0 c).oneCell' = true) hno)
 replace hno := box hno
 go_wp2_with (first | ((with_reducible refine lsx (wp_falloc hF3 (cs := doc0) (z := .agg (List.toArray (doc0))) rfl (by kernel_rfl) (by with_unfolding_all rfl) ?_)); intro w4 g4 hF4 hz4) | ((with_reducible refine lsx (wp_fstA0 hF4 (by with_unfolding_all exact ⟨_, _, rfl, rfl, rfl⟩) (by rw [hdl.out]; kernel_rfl) hdo.out (by rw [hdl.out, doc0_len]; decide) (spl_all (by rw [hdl.out, doc0_len])) ?_)); intro w5 hF5 hz5) | ((with_reducible refine lsx (wp_fbsl T_u8 hF5 (vs := [bv 91, bv 93]) (by with_unfolding_all rfl) (by with_unfolding_all rfl) (by with_unfolding_all rfl) (by decide) (by simp [bv, Value.cells]) ?_)); intro w6 g6 hF6 hz6; have hr6 : Rd w6 (· < w6.heap.size) (some ⟨g6, 0, none⟩) 1 2 (([91,93] : List UInt8).map bv) := hF6.rdOwn (i := 0) rfl) | ((with_reducible refine lsx (wp_fmark T_u8 Tryz.underlying5 hF6 (by with_unfolding_all exact ⟨_, rfl, rfl⟩) ?_)); intro w7 hF7 hz7))
 have hp := mparse_any (some ⟨g6, 0, none⟩) 2 2 [91, 93] w7 ((hL1.on hF7.below).up hF7.below.size) (Nat.le_refl _) (by decide) (hF7.rd (i := 0) rfl)
 rw [mawk2] at hp
 replace hp := box hp
 refine hp.out.mono ?_
 rintro e w8 ⟨cs8, es8, rfl, hD8, h8⟩
 have hF8 := hF7.joinR h8
 simp only [List.cons_append, List.nil_append] at hF8
 have hl8 := box hD8.len
 have ho8 := box hD8.ones
 simp only [mCode]
 clear hp h8 hD8 hF3 hF4 hF5 hF6 hF7
 go_wp2_with (first | ((with_reducible refine lsx (wp_falloc hF8 (cs := doc0) (z := .agg (List.toArray (doc0))) rfl (by kernel_rfl) (by with_unfolding_all rfl) ?_)); intro w9 g9 hF9 hz9) | ((with_reducible refine lsx (wp_fstA0 hF9 (by with_unfolding_all exact ⟨_, _, rfl, rfl, rfl⟩) (by rw [hl8.out]; kernel_rfl) ho8.out (by rw [hl8.out, doc0_len]; decide) (spl_all (by rw [hl8.out, doc0_len])) ?_)); intro w10 hF10 hz10) | (with_reducible refine lsx (wp_fld2 hF10 Tryz.underlying9 rfl (by with_unfolding_all exact ⟨_, rfl, rfl⟩) docL_m0 ?_)) | (with_reducible refine lsx (wp_fld2 hF10 Tryz.underlying29 rfl (by with_unfolding_all exact ⟨_, rfl, rfl⟩) (docL_eg hcl.out) ?_)))
 go_ret
 exact ⟨rfl, hF10.below⟩
end Go.Proofs.YtlhicfpmlncomaaGreatDoor

namespace Go.Proofs.YtlhicfpmlncomaaGreatDoor
open Go.RowKit
set_option linter.unusedSimpArgs false
set_option linter.unusedVariables false
theorem T_rnotes : SlT Tryz.prog 35 149 2 32 (.agg #[.string ⟨#[]⟩, .string ⟨#[]⟩]) := ⟨Tryz.underlying35, by kernel_rfl, rfl, by decide⟩
theorem T_rdescs : SlT Tryz.prog 38 37 35 80 (.agg ds0.toArray) := ⟨Tryz.underlying38, by kernel_rfl, by kernel_rfl, by decide⟩
theorem ds_fill {m dig : List UInt8} {z : Int} {A : Option Addr} {n c : Nat} (hd : dig.length = 32) : Instr.fill (fun i : Nat => dsP[i]?) ds0.toArray [(0, .string ⟨m.toArray⟩), (1, .agg (dig.map bv).toArray), (2, .int .i64 z), (3, .slice A n c)] = some (dsL m dig z (.slice A n c)).toArray := by
 have hz : zeros.length = 32 := by decide
 unfold ds0
 rw [fill_step (off := 0) (size := 1) rfl rfl (by rw [dsL_len hz]; omega), show (Value.string ⟨m.toArray⟩).cells.toList = [.string ⟨m.toArray⟩] from rfl, dsL_0s,
  fill_step (off := 1) (size := 32) rfl (by simpa [Value.cells] using hd) (by rw [dsL_len hz]; omega), show (Value.agg (dig.map bv).toArray).cells.toList = dig.map bv from rfl, dsL_1 (by rw [hz, hd]),
  fill_step (off := 33) (size := 1) rfl rfl (by rw [dsL_len hd]; omega), show (Value.int .i64 z).cells.toList = [.int .i64 z] from rfl, dsL_33 hd,
  fill_step (off := 34) (size := 1) rfl rfl (by rw [dsL_len hd]; omega), show (Value.slice A n c).cells.toList = [.slice A n c] from rfl, dsL_34 hd]
 rfl
set_option maxRecDepth 20000 in
set_option maxHeartbeats 3200000 in
theorem backNotes_any (A : Option Addr) (n c : Nat) (l : List MNote) (w : World) (hn : n = l.length) (hbd : n ≤ 1048576) (hr : Rd w (· < w.heap.size) A 2 n (ntsL l)) :
  Calls Tryz.prog 37 #[.slice A n c] w fun e w' => ∃ nt es, e = .returned nt ∧ VN l nt es ∧ Fr [] w w' es := by
 have hF0 := Fr.nil w
 replace hn := box hn
 go_enter Tryz.func37, Tryz.ntmps37
 go_wp2_with fail
 have hF1 := hF0.none_ w.heap.size 149 2
 go_loopg [3, 8] n (fun g ov iv wr => ∃ (i : Nat) (B : Option Addr) (d : Nat), i ≤ n ∧ Box (g = n - i) ∧ iv = .int .i64 (i : Int) ∧ ov = .slice B i d ∧ i ≤ d ∧ Fr [] w wr [.own w.heap.size 149 2 (.slice B i d) i (ntsL (l.take i))])
 case atStart => exact ⟨0, none, 0, by omega, box rfl, rfl, rfl, by omega, hF1⟩
 case round =>
  clear hF0 hF1
  obtain ⟨i, B, d, hi, hgi, rfl, rfl, hid, hF⟩ := hrel
  have hkk : Box (_ = n - i) := hgi
  clear hgi
  have hr' := hr.below hF.below
  by_cases hlt : i < n
  ·obtain ⟨x, hx⟩ : ∃ x, l[i]? = some x := ⟨l[i]'(by rw [← hn.out]; exact hlt), by simp⟩
   have hxc := box (ntsL_at hx)
   have hsn : Box (ntsL (l.take (i + 1)) = ntsL (l.take i) ++ ntL x) := box (by rw [List.take_add_one, hx, ← ntsL_snoc]; rfl)
   clear hx
   go_wp2_with (first | (with_reducible refine lsx (wp_indexAddr T_notes hr' (by with_unfolding_all exact ⟨_, _, _, _, rfl, rfl, rfl⟩) (by omega) (by omega) ?_)) | (with_reducible refine lsx (wp_loadA hr' Tryz.underlying70 rfl (by with_unfolding_all exact ⟨_, rfl, rfl⟩) (ds := (ntL x)) (by kernel_rfl) (by with_unfolding_all exact hxc.out) ?_)) | ((with_reducible refine lsx (wp_falloc hF (cs := nt0) (z := .agg (List.toArray (nt0))) rfl (by kernel_rfl) (by with_unfolding_all rfl) ?_)); intro w2 g2 hF2 hz2) | ((with_reducible refine lsx (wp_fstA0 hF2 (by with_unfolding_all exact ⟨_, _, rfl, rfl, rfl⟩) (by kernel_rfl) (ntL_one _) (Nat.le_refl 2) (spl_all rfl) ?_)); intro w3 hF3 hz3) | (with_reducible refine lsx (wp_fld0 hF3 Tryz.underlying9 rfl (by with_unfolding_all exact ⟨_, rfl, rfl⟩) rfl ?_)) | (with_reducible refine lsx (wp_fbuild Tryz.underlying149 (z := .agg (List.toArray nt0)) (by kernel_rfl) (pl := ntP) (by kernel_rfl) (cs := (ntL x)) rfl (vs := [(0, strv x.key), (1, strv x.val)]) (by with_unfolding_all rfl) (by with_unfolding_all rfl) ?_)) | ((with_reducible refine lsx (wp_fbs1 T_rnotes hF3 (by with_unfolding_all rfl) (ds := (ntL x)) (by with_unfolding_all rfl) (ntL_len _) (by decide) ?_)); intro w4 g4 hF4 hz4) | ((with_reducible refine lsx (wp_fappG T_rnotes hF4 (i := 2) rfl (Nat.le_refl _) (hF4.rdOwn (i := 0) rfl) (ntL_one _) (by with_unfolding_all exact ⟨_, _, rfl, rfl, rfl⟩) (by unfold maxLen; omega) (by omega) ?_)); intro v5 w5 hF5 hz5; simp only [zZ, zN] at hF5; obtain ⟨A5, c5, rfl, hc5⟩ := hF5.ownParts (i := 2) rfl))
   go_roundg (n - (i + 1))
   case rel => exact ⟨i + 1, A5, c5, by omega, box rfl, by go_num, rfl, hc5, by rw [hsn.out]; exact hF5.tail.tail⟩
   case measure => have := hkk.out; omega
  ·obtain rfl : n = i := by omega
   have hta : Box (l.take n = l) := box (List.take_of_length_le (by rw [hn.out]; exact Nat.le_refl _))
   rw [hta.out] at hF
   go_wp2_with fail
   go_ret
   have hF3 := hF.toRd (i := 0) rfl
   exact ⟨_, _, rfl, ⟨B, n, d, hid, hn.out, rfl, .inr (by simp)⟩, hF3⟩
set_option maxRecDepth 20000 in
set_option maxHeartbeats 3200000 in
theorem notes_any (A : Option Addr) (n c : Nat) (l : List MNote) (w : World) (hn : n = l.length) (hbd : n ≤ 1048576) (hr : Rd w (· < w.heap.size) A 2 n (ntsL l)) :
  Calls Tryz.prog 55 #[.slice A n c] w fun e w' => ∃ nt es, e = .returned nt ∧ VN l nt es ∧ Fr [] w w' es := by
 have hF0 := Fr.nil w
 replace hn := box hn
 go_enter Tryz.func55, Tryz.ntmps55
 go_wp2_with fail
 have hF1 := hF0.none_ w.heap.size 70 2
 go_loopg [3, 8] n (fun g ov iv wr => ∃ (i : Nat) (B : Option Addr) (d : Nat), i ≤ n ∧ Box (g = n - i) ∧ iv = .int .i64 (i : Int) ∧ ov = .slice B i d ∧ i ≤ d ∧ Fr [] w wr [.own w.heap.size 70 2 (.slice B i d) i (ntsL (l.take i))])
 case atStart => exact ⟨0, none, 0, by omega, box rfl, rfl, rfl, by omega, hF1⟩
 case round =>
  clear hF0 hF1
  obtain ⟨i, B, d, hi, hgi, rfl, rfl, hid, hF⟩ := hrel
  have hkk : Box (_ = n - i) := hgi
  clear hgi
  have hr' := hr.below hF.below
  by_cases hlt : i < n
  ·obtain ⟨x, hx⟩ : ∃ x, l[i]? = some x := ⟨l[i]'(by rw [← hn.out]; exact hlt), by simp⟩
   have hxc := box (ntsL_at hx)
   have hsn : Box (ntsL (l.take (i + 1)) = ntsL (l.take i) ++ ntL x) := box (by rw [List.take_add_one, hx, ← ntsL_snoc]; rfl)
   clear hx
   go_wp2_with (first | (with_reducible refine lsx (wp_indexAddr T_rnotes hr' (by with_unfolding_all exact ⟨_, _, _, _, rfl, rfl, rfl⟩) (by omega) (by omega) ?_)) | (with_reducible refine lsx (wp_loadA hr' Tryz.underlying149 rfl (by with_unfolding_all exact ⟨_, rfl, rfl⟩) (ds := (ntL x)) (by kernel_rfl) (by with_unfolding_all exact hxc.out) ?_)) | ((with_reducible refine lsx (wp_falloc hF (cs := nt0) (z := .agg (List.toArray (nt0))) rfl (by kernel_rfl) (by with_unfolding_all rfl) ?_)); intro w2 g2 hF2 hz2) | ((with_reducible refine lsx (wp_fstA0 hF2 (by with_unfolding_all exact ⟨_, _, rfl, rfl, rfl⟩) (by kernel_rfl) (ntL_one _) (Nat.le_refl 2) (spl_all rfl) ?_)); intro w3 hF3 hz3) | (with_reducible refine lsx (wp_fld0 hF3 Tryz.underlying9 rfl (by with_unfolding_all exact ⟨_, rfl, rfl⟩) rfl ?_)) | (with_reducible refine lsx (wp_fbuild Tryz.underlying70 (z := .agg (List.toArray nt0)) (by kernel_rfl) (pl := ntP) (by kernel_rfl) (cs := (ntL x)) rfl (vs := [(0, strv x.key), (1, strv x.val)]) (by with_unfolding_all rfl) (by with_unfolding_all rfl) ?_)) | ((with_reducible refine lsx (wp_fbs1 T_notes hF3 (by with_unfolding_all rfl) (ds := (ntL x)) (by with_unfolding_all rfl) (ntL_len _) (by decide) ?_)); intro w4 g4 hF4 hz4) | ((with_reducible refine lsx (wp_fappG T_notes hF4 (i := 2) rfl (Nat.le_refl _) (hF4.rdOwn (i := 0) rfl) (ntL_one _) (by with_unfolding_all exact ⟨_, _, rfl, rfl, rfl⟩) (by unfold maxLen; omega) (by omega) ?_)); intro v5 w5 hF5 hz5; simp only [zZ, zN] at hF5; obtain ⟨A5, c5, rfl, hc5⟩ := hF5.ownParts (i := 2) rfl))
   go_roundg (n - (i + 1))
   case rel => exact ⟨i + 1, A5, c5, by omega, box rfl, by go_num, rfl, hc5, by rw [hsn.out]; exact hF5.tail.tail⟩
   case measure => have := hkk.out; omega
  ·obtain rfl : n = i := by omega
   have hta : Box (l.take n = l) := box (List.take_of_length_le (by rw [hn.out]; exact Nat.le_refl _))
   rw [hta.out] at hF
   go_wp2_with fail
   go_ret
   have hF3 := hF.toRd (i := 0) rfl
   exact ⟨_, _, rfl, ⟨B, n, d, hid, hn.out, rfl, .inr (by simp)⟩, hF3⟩
end Go.Proofs.YtlhicfpmlncomaaGreatDoor

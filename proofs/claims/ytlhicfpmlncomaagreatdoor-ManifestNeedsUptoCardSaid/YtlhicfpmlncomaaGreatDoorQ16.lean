/-
 Layer 8: the program's read, walked.
 Layer 8: errors.As at the program's own kind of error, walked (after the worked example of errors.As at a concrete target).
 Layer 6, plain law: a fault has a number. No program is named here.
-/
import Derived.Test.YtlhicfpmlncomaaGreatDoorQ15
import Derived.Test.YtlhicfpmlncomaaGreatDoorQ03
import Derived.WalkKit
import Derived.LaidEql
import Derived.Stop.Asserts
import Derived.RowKitTokens
import Derived.Test.YtlhicfpmlncomaaGreatDoorQ01
namespace Go.Proofs.YtlhicfpmlncomaaGreatDoor
open Go.RowKit
set_option linter.unusedSimpArgs false
set_option linter.unusedVariables false
theorem VRd.stay {w w' : World} {B : Nat} {v : JV} {cs : List Value} (h : VRd w (· < B) v cs) (hb : Below B w w') : VRd w' (· < B) v cs :=
 VRd.keep (fun _ hk => hk) (fun k hk => hb.block k hk) v h
theorem mReadL_go {ns : List (List UInt8)} {ks : List JV} {i : Nat} {s : List UInt8} {k : JV} {d : MDoc} {h : MGot} (hs : ns[i]? = some s) (hk : ks[i]? = some k) : mReadL d h (ns.drop i) (ks.drop i) = match rStep d s k with
  | .ok d' => mReadL d' (h.one s) (ns.drop (i + 1)) (ks.drop (i + 1))
  | .error e => .error e := by
 rw [List.drop_eq_getElem_cons (List.getElem?_eq_some_iff.1 hs).1, (List.getElem?_eq_some_iff.1 hs).2, List.drop_eq_getElem_cons (List.getElem?_eq_some_iff.1 hk).1, (List.getElem?_eq_some_iff.1 hk).2, mReadL, mStep_one]
 cases rStep d s k <;> rfl
theorem mReadL_end {ns : List (List UInt8)} {ks : List JV} {i : Nat} {d : MDoc} {h : MGot} (hk : ks.length ≤ i) : mReadL d h (ns.drop i) (ks.drop i) = if mWhole d h = true then .ok d else .error 80 := by
 rw [List.drop_of_length_le hk]
 cases ns.drop i <;> (rw [mReadL]; intros; rename_i h1 h2; cases h2)
theorem got_19 (h : MGot) : ((gotI h : Int) != 19) = !(h.v && (h.m && (!h.c && (!h.l && h.i)))) := by obtain ⟨a, b, c, d, e⟩ := h; cases a <;> cases b <;> cases c <;> cases d <;> cases e <;> rfl
theorem got_15 (h : MGot) : ((gotI h : Int) != 15) = !(h.v && (h.m && (h.c && (h.l && !h.i)))) := by obtain ⟨a, b, c, d, e⟩ := h; cases a <;> cases b <;> cases c <;> cases d <;> cases e <;> rfl
def docP : List (Nat × Nat) := [(0, 1), (1, 1), (2, 35), (37, 1), (38, 35), (73, 1), (74, 1)]
def mDc (r : MR MDoc) : MDoc := match r with
 | .ok d => d
 | .error _ => .zero
/-- A document is told, or an error. -/
def MRd (w : World) (r : MR MDoc) (e : Ending) (w' : World) : Prop := ∃ cs es, e = .returned (.tuple #[.agg cs.toArray, mErr r]) ∧ VDoc (mDc r) cs es ∧ Fr [] w w' es
set_option maxRecDepth 20000 in
set_option maxHeartbeats 12800000 in
theorem mread_any (v : JV) (cs : List Value) (w : World) (hM : MaxAt w.heap.size w) (hv : VRd w (· < w.heap.size) v cs) (hob : JOb v) :
  Calls Tryz.prog 31 #[.agg cs.toArray] w (MRd w (mRead v)) := by
 obtain ⟨k, n, t, ns, ks⟩ := v
 rw [VRd] at hv
 obtain ⟨An, nn, cn, Ak, nk, ck, xs, hcn, hck, rfl, hrn, hrk, hvk⟩ := hv
 have hF0 := Fr.nil w
 have hkl := hvk.len
 rw [hrk.len] at hkl
 have hnl := hrn.len
 rw [List.length_map, Nat.mul_one] at hnl
 have hobj := hob.obj
 simp only [JV.kind, JV.names, JV.kids] at hobj
 by_cases hk : k = 6
 rotate_left
 ·have hj : Box (mRead (.mk k n t ns ks) = .error 80) := box (if_neg hk)
  have hq : ((k : Int) != 6) = true := by rw [bne_iff_ne]; exact hk
  replace hk := box hk
  clear hobj
  go_enter Tryz.func31, Tryz.ntmps31
  go_wp2_with (first | ((with_reducible refine lst (by with_unfolding_all rfl) (wp_fbox hF0 (cs := (vlL k n ⟨t.toArray⟩ (.slice An nn cn) (.slice Ak nk ck))) rfl (by with_unfolding_all rfl) (by with_unfolding_all rfl) ?_)); intro w1 g1 hF1 hz1) | ((with_reducible refine lst (by with_unfolding_all rfl) (wp_falloc hF1 (cs := doc0) (z := .agg (List.toArray (doc0))) rfl (by kernel_rfl) (by with_unfolding_all rfl) ?_)); intro w2 g2 hF2 hz2) | ((with_reducible refine lst (by with_unfolding_all rfl) (wp_falloc hF2 (cs := doc0) (z := .agg (List.toArray (doc0))) rfl (by kernel_rfl) (by with_unfolding_all rfl) ?_)); intro w3 g3 hF3 hz3) | (with_reducible refine lst (by with_unfolding_all rfl) (wp_fld2 hF3 Tryz.underlying3 rfl (by with_unfolding_all exact ⟨_, rfl, rfl⟩) rfl ?_)) | (with_reducible refine lst (by with_unfolding_all rfl) (wp_fldA0 hF3 Tryz.underlying31 rfl (by with_unfolding_all exact ⟨_, rfl, rfl⟩) (ds := doc0) (by rw [doc0_len]; kernel_rfl) (take_all _) ?_)) | ((with_reducible refine lst (by with_unfolding_all rfl) (wp_fstA1 hF3 (by with_unfolding_all exact ⟨_, _, rfl, rfl, rfl⟩) (by rw [doc0_len]; kernel_rfl) doc0_one (by first | exact Nat.le_of_eq (Nat.zero_add _) | (rw [doc0_len, doc0_len]; decide)) (spl_all (by first | rfl | (rw [doc0_len, doc0_len]))) ?_)); intro w4 hF4 hz4))
  exact bodyPost_ret (results_cellF2 rfl _ hF4 (i := 1) rfl rfl Tryz.underlying31 rfl (by rw [doc0_len]; kernel_rfl)) rfl (by
   unfold MRd
   rw [hj.out]
   exact ⟨_, _, rfl, VDoc.zero, hF4.tail.tail⟩)
 have hq : ((k : Int) != 6) = false := by rw [hk]; rfl
 have hnk : nk = ks.length := by omega
 have hnn : ns.length = nk := by rw [hnk]; exact (hobj hk).1
 have hkn : nk ≤ 1048576 := by rw [hnk]; exact hob.small.2.2
 have hkob := box (fun u hu => hob.kid (k := u) hu)
 simp only [JV.kids] at hkob
 obtain ⟨J, hJ0⟩ : ∃ J, J = mRead (.mk k n t ns ks) := ⟨_, rfl⟩
 have hJ : Box (J = mReadL .zero ⟨false, false, false, false, false⟩ (ns.drop 0) (ks.drop 0)) := box (by rw [hJ0, List.drop_zero, List.drop_zero]; exact if_pos hk)
 rw [← hJ0]
 have hnn2 : nn = nk := by omega
 subst hnn2
 replace hk := box hk
 replace hnk := box hnk
 replace hnn := box hnn
 replace hvk := box hvk
 clear hobj hkl hnl hJ0 hob
 go_enter Tryz.func31, Tryz.ntmps31
 go_wp2_with (first | ((with_reducible refine lst (by with_unfolding_all rfl) (wp_fbox hF0 (cs := (vlL k n ⟨t.toArray⟩ (.slice An nn cn) (.slice Ak nn ck))) rfl (by with_unfolding_all rfl) (by with_unfolding_all rfl) ?_)); intro w1 g1 hF1 hz1) | ((with_reducible refine lst (by with_unfolding_all rfl) (wp_falloc hF1 (cs := doc0) (z := .agg (List.toArray (doc0))) rfl (by kernel_rfl) (by with_unfolding_all rfl) ?_)); intro w2 g2 hF2 hz2) | ((with_reducible refine lst (by with_unfolding_all rfl) (wp_falloc hF2 (cs := doc0) (z := .agg (List.toArray (doc0))) rfl (by kernel_rfl) (by with_unfolding_all rfl) ?_)); intro w3 g3 hF3 hz3) | (with_reducible refine lst (by with_unfolding_all rfl) (wp_fld2 hF3 Tryz.underlying3 rfl (by with_unfolding_all exact ⟨_, rfl, rfl⟩) rfl ?_)) | (with_reducible refine lst (by with_unfolding_all rfl) (wp_fld2 hF3 Tryz.underlying74 rfl (by with_unfolding_all exact ⟨_, rfl, rfl⟩) rfl ?_)))
 have hg3 : w.heap.size ≤ g3 := by
  rcases hF3.fresh 0 _ rfl _ rfl with h | h
  ·exact h
  ·simp at h
 clear hF0 hF1 hF2
 go_loopg [5, 20] nn (fun g hv iv wr => ∃ (i : Nat) (d : MDoc) (h : MGot) (cd : List Value) (TE : List Ent), i ≤ nn ∧ Box (g = nn - i) ∧ iv = .int .i64 (i : Int) ∧ hv = .int .i64 (gotI h) ∧ Box (VDoc d cd TE) ∧ Box (J = mReadL d h (ns.drop i) (ks.drop i)) ∧ Fr [] w wr (.blk g3 31 cd :: .blk g2 31 doc0 :: .blk g1 76 (vlL k n ⟨t.toArray⟩ (.slice An nn cn) (.slice Ak nn ck)) :: TE))
 case atStart => exact ⟨0, .zero, ⟨false, false, false, false, false⟩, _, [], by omega, box rfl, rfl, rfl, box VDoc.zero, hJ, hF3⟩
 case round =>
  clear hF3 hJ
  obtain ⟨i, d, h, cd, TE, hi, hgi, rfl, rfl, hD, hJ, hF⟩ := hrel
  have hkk : Box (_ = nn - i) := hgi
  clear hgi
  have hrk' := hrk.below hF.below
  have hdl := box hD.out.len
  have hdo := box hD.out.ones
  obtain ⟨cf, eg, sj, nt, hC, hE, hS, hN, hcd⟩ := hD.out
  by_cases hlt : i < nn
  ·obtain ⟨u, hu⟩ : ∃ u, ks[i]? = some u := ⟨ks[i]'(by rw [← hnk.out]; exact hlt), by simp⟩
   obtain ⟨s, hs⟩ : ∃ s, ns[i]? = some s := ⟨ns[i]'(by rw [hnn.out]; exact hlt), by simp⟩
   obtain ⟨ci, hci, hvi⟩ := hvk.out.at hu
   have hstep := box (hJ.out.trans (mReadL_go hs hu))
   have hss : Box ((ns.map strv)[i]? = some (.string ⟨s.toArray⟩)) := box (by rw [List.getElem?_map, hs]; rfl)
   have hcil := box hvi.len
   have hcio := box (VRd.ones hvi)
   have hub := hkob.out u (List.mem_of_getElem? hu)
   subst hcd
   have hmem := box (fun w' (gk : Nat) (hF : Fr [] w w' (.blk gk 76 ci :: .blk g3 31 (docL d.media d.type cf eg sj d.has nt) :: .blk g2 31 doc0 :: .blk g1 76 (vlL k n ⟨t.toArray⟩ (.slice An nn cn) (.slice Ak nn ck)) :: TE)) => mmember_any g3 w.heap.size d cf eg sj nt TE s u ci w' (hF.blk (i := 1) rfl) hg3 hF.below.size hC hE hS hN (hM.on hF.below) (hvi.stay hF.below) hub)
   replace hci := box hci
   clear hu hs hJ hC hE hS hN hub hvi
   go_upto_region 8 with (first | (with_reducible refine lst (by with_unfolding_all rfl) (wp_indexAddr T_vals hrk' (by with_unfolding_all exact ⟨_, _, _, _, rfl, rfl, rfl⟩) (by omega) (by omega) ?_)) | (with_reducible refine lst (by with_unfolding_all rfl) (wp_loadA hrk' Tryz.underlying76 rfl (by with_unfolding_all exact ⟨_, rfl, rfl⟩) (ds := ci) (by rw [hcil.out]; kernel_rfl) (by rw [hcil.out]; with_unfolding_all exact hci.out) ?_)) | ((with_reducible refine lst (by with_unfolding_all rfl) (wp_falloc hF (cs := vl0) (z := .agg (List.toArray (vl0))) rfl (by kernel_rfl) (by with_unfolding_all rfl) ?_)); intro w22 g22 hF22 hz22) | ((with_reducible refine lst (by with_unfolding_all rfl) (wp_fstA0 hF22 (by with_unfolding_all exact ⟨_, _, rfl, rfl, rfl⟩) (by rw [hcil.out]; kernel_rfl) hcio.out (by rw [hcil.out, vlL_len]; decide) (spl_all (by rw [hcil.out, vlL_len])) ?_)); intro w23 hF23 hz23))
   replace hmem := box (fun w' hF => hmem.out w' g22 hF)
   have hFd := hF23.drew
   clear hF hF22 hF23
   refine wp_region_held (S := fun w' => w'.heap[g22]? = some (.cells (List.toArray ci) 76 (0, 0)) ∧ w'.heap[g1]? = some (.cells (List.toArray (vlL k n ⟨t.toArray⟩ (.slice An nn cn) (.slice Ak nn ck))) 76 (0, 0)) ∧ Rd w' (· < w.heap.size) An 1 nn (ns.map strv)) (by kernel_rfl) ?_
   change wpAnyH _ _ _ _ _ _ _ _ (World.drew _)
   refine tkp 0 ⟨hFd.blk (i := 0) rfl, hFd.blk (i := 3) rfl, hrn.below hFd.below⟩ ?_
   (try simp only [Act.put, List.setIfInBounds_toArray, List.set_cons_zero, List.set_cons_succ])
   refine tky 1 (y := yi_fld (by with_unfolding_all rfl) (fun _ h => h.2.1) Tryz.underlying48 rfl (by with_unfolding_all exact ⟨_, rfl, rfl⟩) rfl) (s := ⟨hFd.blk (i := 0) rfl, hFd.blk (i := 3) rfl, hrn.below hFd.below⟩) (h := ?_)
   (try simp only [Act.put, List.setIfInBounds_toArray, List.set_cons_zero, List.set_cons_succ])
   refine tkp 2 ⟨hFd.blk (i := 0) rfl, hFd.blk (i := 3) rfl, hrn.below hFd.below⟩ ?_
   (try simp only [Act.put, List.setIfInBounds_toArray, List.set_cons_zero, List.set_cons_succ])
   refine tky 3 (y := yi_ix (by with_unfolding_all rfl) T_strs (fun h => hrn.some_ h) (k := i) (by with_unfolding_all exact ⟨_, _, _, _, rfl, rfl, rfl⟩) rfl (by omega)) (s := ⟨hFd.blk (i := 0) rfl, hFd.blk (i := 3) rfl, hrn.below hFd.below⟩) (h := ?_)
   (try simp only [Act.put, List.setIfInBounds_toArray, List.set_cons_zero, List.set_cons_succ])
   refine tky 4 (y := yi_ld (by with_unfolding_all rfl) (j := i * 1) (fun _ h => h.2.2) Tryz.underlying9 rfl (by with_unfolding_all exact ⟨_, rfl, rfl⟩) (by rw [Nat.mul_one]; exact hss.out)) (s := ⟨hFd.blk (i := 0) rfl, hFd.blk (i := 3) rfl, hrn.below hFd.below⟩) (h := ?_)
   (try simp only [Act.put, List.setIfInBounds_toArray, List.set_cons_zero, List.set_cons_succ])
   refine tky 5 (y := yi_fldA (by with_unfolding_all rfl) (fun _ h => h.1) Tryz.underlying76 rfl (by with_unfolding_all exact ⟨_, rfl, rfl⟩) (ds := ci) (by rw [hcil.out]; kernel_rfl) (take_all _)) (s := ⟨hFd.blk (i := 0) rfl, hFd.blk (i := 3) rfl, hrn.below hFd.below⟩) (h := ?_)
   (try simp only [Act.put, List.setIfInBounds_toArray, List.set_cons_zero, List.set_cons_succ])
   refine rdy1 6 (fun K hK => ?_)
   refine stp (by with_unfolding_all rfl) (wp_call Tryz.func66 rfl (by with_unfolding_all rfl) (by with_unfolding_all rfl) (by with_unfolding_all rfl) (hmem.out _ hFd) ?_)
   rintro e w41 ⟨cs41, es41, b41, rfl, hl41, ho41, hv41, hok41⟩
   refine ⟨_, rfl, ?_⟩
   have hF41 := hFd.putG (i := 1) rfl hv41
   simp only [List.set_cons_zero, List.set_cons_succ, List.cons_append] at hF41
   refine hK.out _ _ (⟨hF41.blk (i := 0) rfl, hF41.blk (i := 3) rfl, hrn.below hF41.below⟩) (fun _ => ?_)
   clear hK K
   (try simp only [Act.put, List.setIfInBounds_toArray, List.set_cons_zero, List.set_cons_succ])
   refine tkp 7 ⟨hF41.blk (i := 0) rfl, hF41.blk (i := 3) rfl, hrn.below hF41.below⟩ ?_
   (try simp only [Act.put, List.setIfInBounds_toArray, List.set_cons_zero, List.set_cons_succ])
   refine tkp 8 ⟨hF41.blk (i := 0) rfl, hF41.blk (i := 3) rfl, hrn.below hF41.below⟩ ?_
   (try simp only [Act.put, List.setIfInBounds_toArray, List.set_cons_zero, List.set_cons_succ])
   refine tkp 9 ⟨hF41.blk (i := 0) rfl, hF41.blk (i := 3) rfl, hrn.below hF41.below⟩ ?_
   (try simp only [Act.put, List.setIfInBounds_toArray, List.set_cons_zero, List.set_cons_succ])
   refine tkp 10 ⟨hF41.blk (i := 0) rfl, hF41.blk (i := 3) rfl, hrn.below hF41.below⟩ ?_
   (try simp only [Act.put, List.setIfInBounds_toArray, List.set_cons_zero])
   refine tkp 11 ⟨hF41.blk (i := 0) rfl, hF41.blk (i := 3) rfl, hrn.below hF41.below⟩ ?_
   (try simp only [Act.put, List.setIfInBounds_toArray, List.set_cons_zero])
   refine wpAnyH_done (by kernel_rfl) ?_ _
   cases hm : rStep d s u with
   | error ee =>
    rw [hm] at hstep
    simp only [] at hstep
    simp only [mErr]
    replace ho41 := box ho41
    replace hl41 := box hl41
    clear hok41 hv41
    go_wp2_with (first | (with_reducible refine lst (by with_unfolding_all rfl) (wp_fbuild Tryz.underlying31 (z := .agg (List.toArray doc0)) (by kernel_rfl) (pl := docP) (by kernel_rfl) (cs := doc0) rfl (vs := []) (by with_unfolding_all rfl) (by with_unfolding_all rfl) ?_)) | ((with_reducible refine lst (by with_unfolding_all rfl) (wp_fstA2 hF41 (by with_unfolding_all exact ⟨_, _, rfl, rfl, rfl⟩) (by rw [doc0_len]; kernel_rfl) doc0_one (by first | exact Nat.le_of_eq (Nat.zero_add _) | (rw [doc0_len, doc0_len]; decide)) (spl_all (by first | rfl | (rw [doc0_len, doc0_len]))) ?_)); intro w60 hF60 hz60))
    exact bodyPost_ret (results_cellF2 rfl _ hF60 (i := 2) rfl rfl Tryz.underlying31 rfl (by rw [doc0_len]; kernel_rfl)) rfl (by
     unfold MRd
     rw [hstep.out]
     exact ⟨_, _, rfl, VDoc.zero, hF60.tail.tail.tail.tail⟩)
   | ok d' =>
    rw [hm] at hstep
    simp only [] at hstep
    simp only [mErr]
    obtain ⟨hb, hD'⟩ := hok41 d' hm
    have hor := got_or h s
    rw [← hb] at hor
    replace hor := box hor
    replace hb := box hb
    replace hD' := box hD'
    clear hv41 hok41 hl41 ho41
    go_wp2_with fail
    go_roundg (nn - (i + 1))
    case rel => exact ⟨i + 1, d', h.one s, cs41, TE ++ es41, by omega, box rfl, by go_num, congrArg (Value.int .i64) hor.out, hD', hstep, hF41.tail⟩
    case measure => have := hkk.out; omega
  ·have hend := hJ.out.trans (mReadL_end (by rw [← hnk.out]; omega))
   obtain rfl : nn = i := by omega
   subst hcd
   have hzl := box doc0_len
   by_cases hix : d.media = sIndex
   ·have e1 : (d.media == [97, 112, 112, 108, 105, 99, 97, 116, 105, 111, 110, 47, 118, 110, 100, 46, 111, 99, 105, 46, 105, 109, 97, 103, 101, 46, 105, 110, 100, 101, 120, 46, 118, 49, 43, 106, 115, 111, 110]) = true := by rw [beq_iff_eq]; exact hix
    have hw : mWhole d h = (h.v && (h.m && (!h.c && (!h.l && h.i)))) := if_pos hix
    have h19 := got_19 h
    rw [← hw] at h19
    replace hix := box hix
    cases hww : mWhole d h with
    | true =>
     rw [hww] at h19 hend
     rw [if_pos rfl] at hend
     replace h19 : ((gotI h : Int) != 19) = false := h19
     replace hend := box hend
     clear hw hww
     go_wp2_with (first | (with_reducible refine lst (by with_unfolding_all rfl) (wp_fld0 hF Tryz.underlying9 rfl (by with_unfolding_all exact ⟨_, rfl, rfl⟩) docL_m0 ?_)) | (with_reducible refine lst (by with_unfolding_all rfl) (wp_fldA0 hF Tryz.underlying31 rfl (by with_unfolding_all exact ⟨_, rfl, rfl⟩) (ds := (docL d.media d.type cf eg sj d.has nt)) (by rw [hdl.out]; kernel_rfl) (take_all _) ?_)) | ((with_reducible refine lst (by with_unfolding_all rfl) (wp_fstA1 hF (by with_unfolding_all exact ⟨_, _, rfl, rfl, rfl⟩) (by rw [hdl.out]; kernel_rfl) hdo.out (by rw [hdl.out, hzl.out]; decide) (spl_all (by rw [hdl.out, hzl.out])) ?_)); intro w60 hF60 hz60))
     exact bodyPost_ret (results_cellF2 rfl _ hF60 (i := 1) rfl rfl Tryz.underlying31 rfl (by rw [hdl.out]; kernel_rfl)) rfl (by
      unfold MRd
      rw [hend.out]
      exact ⟨_, _, rfl, hD.out, hF60.tail.tail.tail⟩)
    | false =>
     rw [hww] at h19 hend
     rw [if_neg (by decide)] at hend
     replace h19 : ((gotI h : Int) != 19) = true := h19
     replace hend := box hend
     clear hw hww
     go_wp2_with (first | (with_reducible refine lst (by with_unfolding_all rfl) (wp_fld0 hF Tryz.underlying9 rfl (by with_unfolding_all exact ⟨_, rfl, rfl⟩) docL_m0 ?_)) | (with_reducible refine lst (by with_unfolding_all rfl) (wp_fbuild Tryz.underlying31 (z := .agg (List.toArray doc0)) (by kernel_rfl) (pl := docP) (by kernel_rfl) (cs := doc0) rfl (vs := []) (by with_unfolding_all rfl) (by with_unfolding_all rfl) ?_)) | ((with_reducible refine lst (by with_unfolding_all rfl) (wp_fstA1 hF (by with_unfolding_all exact ⟨_, _, rfl, rfl, rfl⟩) (by rw [doc0_len]; kernel_rfl) doc0_one (by first | exact Nat.le_of_eq (Nat.zero_add _) | (rw [doc0_len, doc0_len]; decide)) (spl_all (by first | rfl | (rw [doc0_len, doc0_len]))) ?_)); intro w60 hF60 hz60))
     exact bodyPost_ret (results_cellF2 rfl _ hF60 (i := 1) rfl rfl Tryz.underlying31 rfl (by rw [doc0_len]; kernel_rfl)) rfl (by
      unfold MRd
      rw [hend.out]
      exact ⟨_, _, rfl, VDoc.zero, hF60.tail.tail.tail⟩)
   ·have e1 : (d.media == [97, 112, 112, 108, 105, 99, 97, 116, 105, 111, 110, 47, 118, 110, 100, 46, 111, 99, 105, 46, 105, 109, 97, 103, 101, 46, 105, 110, 100, 101, 120, 46, 118, 49, 43, 106, 115, 111, 110]) = false := by rw [beq_eq_false_iff_ne]; exact hix
    have hw : mWhole d h = (h.v && (h.m && (h.c && (h.l && !h.i)))) := if_neg hix
    have h19 := got_15 h
    rw [← hw] at h19
    replace hix := box hix
    cases hww : mWhole d h with
    | true =>
     rw [hww] at h19 hend
     rw [if_pos rfl] at hend
     replace h19 : ((gotI h : Int) != 15) = false := h19
     replace hend := box hend
     clear hw hww
     go_wp2_with (first | (with_reducible refine lst (by with_unfolding_all rfl) (wp_fld0 hF Tryz.underlying9 rfl (by with_unfolding_all exact ⟨_, rfl, rfl⟩) docL_m0 ?_)) | (with_reducible refine lst (by with_unfolding_all rfl) (wp_fldA0 hF Tryz.underlying31 rfl (by with_unfolding_all exact ⟨_, rfl, rfl⟩) (ds := (docL d.media d.type cf eg sj d.has nt)) (by rw [hdl.out]; kernel_rfl) (take_all _) ?_)) | ((with_reducible refine lst (by with_unfolding_all rfl) (wp_fstA1 hF (by with_unfolding_all exact ⟨_, _, rfl, rfl, rfl⟩) (by rw [hdl.out]; kernel_rfl) hdo.out (by rw [hdl.out, hzl.out]; decide) (spl_all (by rw [hdl.out, hzl.out])) ?_)); intro w60 hF60 hz60))
     exact bodyPost_ret (results_cellF2 rfl _ hF60 (i := 1) rfl rfl Tryz.underlying31 rfl (by rw [hdl.out]; kernel_rfl)) rfl (by
      unfold MRd
      rw [hend.out]
      exact ⟨_, _, rfl, hD.out, hF60.tail.tail.tail⟩)
    | false =>
     rw [hww] at h19 hend
     rw [if_neg (by decide)] at hend
     replace h19 : ((gotI h : Int) != 15) = true := h19
     replace hend := box hend
     clear hw hww
     go_wp2_with (first | (with_reducible refine lst (by with_unfolding_all rfl) (wp_fld0 hF Tryz.underlying9 rfl (by with_unfolding_all exact ⟨_, rfl, rfl⟩) docL_m0 ?_)) | (with_reducible refine lst (by with_unfolding_all rfl) (wp_fbuild Tryz.underlying31 (z := .agg (List.toArray doc0)) (by kernel_rfl) (pl := docP) (by kernel_rfl) (cs := doc0) rfl (vs := []) (by with_unfolding_all rfl) (by with_unfolding_all rfl) ?_)) | ((with_reducible refine lst (by with_unfolding_all rfl) (wp_fstA1 hF (by with_unfolding_all exact ⟨_, _, rfl, rfl, rfl⟩) (by rw [doc0_len]; kernel_rfl) doc0_one (by first | exact Nat.le_of_eq (Nat.zero_add _) | (rw [doc0_len, doc0_len]; decide)) (spl_all (by first | rfl | (rw [doc0_len, doc0_len]))) ?_)); intro w60 hF60 hz60))
     exact bodyPost_ret (results_cellF2 rfl _ hF60 (i := 1) rfl rfl Tryz.underlying31 rfl (by rw [doc0_len]; kernel_rfl)) rfl (by
      unfold MRd
      rw [hend.out]
      exact ⟨_, _, rfl, VDoc.zero, hF60.tail.tail.tail⟩)
end Go.Proofs.YtlhicfpmlncomaaGreatDoor

namespace Go.Proofs.YtlhicfpmlncomaaGreatDoor
open Go.RowKit Go.Extern.Stop Go.Stop Go.Extern
set_option linter.unusedSimpArgs false
set_option linter.unusedVariables false
theorem as_nil (t : Value) (w : World) :
  Calls Tryz.prog 32 #[.nilIface, t] w fun e w' => e = .returned (.bool false) ∧ w' = w := by
 go_enter Tryz.func32, Tryz.ntmps32
 go_wp2
 go_ret
 exact ⟨rfl, rfl⟩
theorem xvalueOfP (t : Addr) (w : World) : (ReflectliteValue.unpack (.iface 86 (.pointer (some t)))).run Tryz.prog w
  = .ok (.agg #[.pointer (some ⟨9, 86, none⟩), .pointer (some ⟨w.heap.size, 0, none⟩), .int .u64 150]) (w.alloc (.cells #[.pointer (some t)] 86)) := by kernel_rfl
theorem xtypeP (a : Addr) (w : World) : (ReflectliteValue.methodAny (ReflectliteValue.valueError "reflectlite.Value.Type" 0) (fun t _ _ _ => ReflectliteType.toType t) #[.agg #[.pointer (some ⟨9, 86, none⟩), .pointer (some a), .int .u64 150]]).run Tryz.prog w
  = .ok (.iface 177 (.agg #[.pointer (some ⟨9, 86, none⟩)])) w := by kernel_rfl
theorem xkindP (w : World) : ((ReflectliteType.abiMethod fun t => (fun a : Nat => Value.int IntKind.u8 (a : Int)) <$> Rtype.kind t) #[.pointer (some ⟨9, 86, none⟩)]).run Tryz.prog w = .ok (.int .u8 22) w := by kernel_rfl
theorem xkindE (w : World) : ((ReflectliteType.abiMethod fun t => (fun a : Nat => Value.int IntKind.u8 (a : Int)) <$> Rtype.kind t) #[.pointer (some ⟨9, 84, none⟩)]).run Tryz.prog w = .ok (.int .u8 25) w := by kernel_rfl
theorem xelemP (w : World) : (ReflectliteType.method ReflectliteType.elem #[.agg #[.pointer (some ⟨9, 86, none⟩)]]).run Tryz.prog w = .ok (.iface 177 (.agg #[.pointer (some ⟨9, 84, none⟩)])) w := by kernel_rfl
theorem ximplE (w : World) : (ReflectliteType.relation "Implements" ReflectliteType.implements_ #[.agg #[.pointer (some ⟨9, 84, none⟩)], .iface 177 (.agg #[.pointer (some ⟨9, 80, none⟩)])]).run Tryz.prog w = .ok (.bool true) w := by kernel_rfl
theorem xtypeOfE (v : Value) (w : World) : (ReflectliteType.typeOf #[.iface 84 v]).run Tryz.prog w = .ok (.iface 177 (.agg #[.pointer (some ⟨9, 84, none⟩)])) w := by kernel_rfl
theorem xassE (w : World) : (ReflectliteType.relation "AssignableTo" ReflectliteType.assignableTo #[.agg #[.pointer (some ⟨9, 84, none⟩)], .iface 177 (.agg #[.pointer (some ⟨9, 84, none⟩)])]).run Tryz.prog w = .ok (.bool true) w := by kernel_rfl
theorem xvalueOfE (e : Int) (w : World) : (ReflectliteValue.unpack (.iface 84 (.agg #[.int .i64 e]))).run Tryz.prog w
  = .ok (.agg #[.pointer (some ⟨9, 84, none⟩), .pointer (some ⟨w.heap.size, 0, none⟩), .int .u64 153]) (w.alloc (.cells #[.int .i64 e] 84)) := by kernel_rfl
theorem xelemOfP (w : World) : (Rtype.elem? 86).run Tryz.prog w = .ok (some 84) w := by kernel_rfl
theorem xmkE (p : Addr) (w : World) : (ReflectliteValue.mk 84 p ReflectliteValue.flagAddr).run Tryz.prog w = .ok (.agg #[.pointer (some ⟨9, 84, none⟩), .pointer (some p), .int .u64 409]) w := by kernel_rfl
theorem xpartsP (a : Addr) (w : World) : (ReflectliteValue.parts (.agg #[.pointer (some ⟨9, 86, none⟩), .pointer (some a), .int .u64 150])).run Tryz.prog w = .ok (some (86, a, 150)) w := by kernel_rfl
theorem xpartsEa (a : Addr) (w : World) : (ReflectliteValue.parts (.agg #[.pointer (some ⟨9, 84, none⟩), .pointer (some a), .int .u64 409])).run Tryz.prog w = .ok (some (84, a, 409)) w := by kernel_rfl
theorem xpartsE (a : Addr) (w : World) : (ReflectliteValue.parts (.agg #[.pointer (some ⟨9, 84, none⟩), .pointer (some a), .int .u64 153])).run Tryz.prog w = .ok (some (84, a, 153)) w := by kernel_rfl
theorem xdirE (w : World) : (Rtype.directlyAssignable 84 84).run Tryz.prog w = .ok true w := by kernel_rfl
theorem xsizeE (w : World) : (sizeOf 84).run Tryz.prog w = .ok 1 w := by kernel_rfl
theorem rlm_ (z : Sem Value) (f : TypeId → Addr → Nat → Nat → Sem Value) (v : Value) :
  ReflectliteValue.method z f #[v] = (do match ← ReflectliteValue.parts v with | none => z | some (t, a, fl) => f t a fl (fl % 32)) := rfl
/-- (Value).IsNil at the Value of a pointer that is not nil. -/
theorem xisNilP (a p : Addr) (W : World) (ha : W.cell? a = some (.pointer (some p))) :
  (ReflectliteValue.method (ReflectliteValue.valueError "reflectlite.Value.IsNil" 0) ReflectliteValue.isNil #[.agg #[.pointer (some ⟨9, 86, none⟩), .pointer (some a), .int .u64 150]]).run Tryz.prog W = .ok (.bool false) W := by
 rw [rlm_]
 simp only [Sem.run_bind, xpartsP, Result.andThen]
 simp [ReflectliteValue.isNil, loadVar, isAgg, underlying, Tryz.underlying86, ha, Result.andThen]
theorem xmElem (h : Value) (w : World) (n : Nat) : (Go.method (n + 1) 177 (.agg #[h]) "Elem").run Tryz.prog w = .ok (196, .agg #[h]) w := by kernel_rfl
theorem xmImpl (h : Value) (w : World) (n : Nat) : (Go.method (n + 1) 177 (.agg #[h]) "Implements").run Tryz.prog w = .ok (197, .agg #[h]) w := by kernel_rfl
theorem xmAss (h : Value) (w : World) (n : Nat) : (Go.method (n + 1) 177 (.agg #[h]) "AssignableTo").run Tryz.prog w = .ok (194, .agg #[h]) w := by kernel_rfl
theorem xmKind (h : Value) (w : World) (n : Nat) : (Go.method (n + 1) 177 (.agg #[h]) "Kind").run Tryz.prog w = .ok (185, h) w := by kernel_rfl
/-- (Value).Elem at that Value: the Value of the variable that it points to, addressable. -/
theorem xelemVP (a p : Addr) (W : World) (ha : W.cell? a = some (.pointer (some p))) :
  (ReflectliteValue.method (ReflectliteValue.valueError "reflectlite.Value.Elem" 0) ReflectliteValue.elem #[.agg #[.pointer (some ⟨9, 86, none⟩), .pointer (some a), .int .u64 150]]).run Tryz.prog W
   = .ok (.agg #[.pointer (some ⟨9, 84, none⟩), .pointer (some p), .int .u64 409]) W := by
 rw [rlm_]
 simp only [Sem.run_bind, xpartsP, Result.andThen]
 simp [ReflectliteValue.elem, loadVar, isAgg, underlying, Tryz.underlying86, ha, Result.andThen, xelemOfP, xmkE]
theorem rls_ (v x : Value) : ReflectliteValue.set #[v, x] = (do
  let (some (dst, a, fl), some (src, b, _)) := (← ReflectliteValue.parts v, ← ReflectliteValue.parts x)
   | unsupported (.noEntry "extern/(internal/reflectlite.Value).Set.zeroValue")
  if fl / ReflectliteValue.flagAddr % 2 == 0 then unsupported (.noEntry "extern/(internal/reflectlite.Value).Set.unaddressable")
  let val ← loadVar src b
  if ← Rtype.directlyAssignable dst src then storeVar dst a val
  else if ← Rtype.implements dst src then
   if (← Rtype.kind src) == 20 then
    match val with
    | .nilIface => unsupported (.noEntry "extern/reflectlite: a nil value of one interface type handed on as a value of another")
    | _ => storeVar dst a val
   else storeVar dst a (.iface src val)
  else panicString ("reflectlite.Set: value of type " ++ (← Rtype.spelt src) ++ " is not assignable to type " ++ (← Rtype.spelt dst))
  pure (.tuple #[])) := rfl
/-- (Value).Set: the variable gets what the Value's own variable holds. -/
theorem xset {X : List Nat} {w0 W : World} {es : List Ent} (hF : Fr X w0 W es) {i j gt gb : Nat} {old : Value} {e : Int} (hi : es[i]? = some (.blk gt 84 [old])) (hj : es[j]? = some (.blk gb 84 [.int .i64 e])) :
  ∃ W2, (ReflectliteValue.set #[.agg #[.pointer (some ⟨9, 84, none⟩), .pointer (some ⟨gt, 0, none⟩), .int .u64 409], .agg #[.pointer (some ⟨9, 84, none⟩), .pointer (some ⟨gb, 0, none⟩), .int .u64 153]]).run Tryz.prog W = .ok (.tuple #[]) W2 ∧ Fr X w0 W2 (es.set i (.blk gt 84 [.int .i64 e])) := by
 have hld := run_loadF (P := Tryz.prog) hF hj Tryz.underlying84 rfl (by kernel_rfl)
 obtain ⟨hr, hF'⟩ := run_storeF (P := Tryz.prog) hF hi (off := 0) (ds := [.int .i64 e]) (by simp) (by simp; rfl)
 refine ⟨_, ?_, hF'⟩
 rw [rls_]
 simp only [Sem.run_bind, xpartsEa, xpartsE, Result.andThen]
 simp [ReflectliteValue.flagAddr, hld, Result.andThen, xdirE, storeVar, xsizeE, Value.cells, hr]
set_option maxRecDepth 20000 in
set_option maxHeartbeats 4000000 in
theorem xas_hit {X : List Nat} {w0 w : World} {es : List Ent} (hF : Fr X w0 w es) {i gt : Nat} {old : Value} (e : Int) (hi : es[i]? = some (.blk gt 84 [old])) (hg : w.cell? ⟨0, 0, none⟩ = some (.iface 177 (.agg #[.pointer (some ⟨9, 80, none⟩)]))) :
  Calls Tryz.prog 32 #[.iface 84 (.agg #[.int .i64 e]), .iface 86 (.pointer (some ⟨gt, 0, none⟩))] w fun ev w' => ev = .returned (.bool true) ∧ Fr X w0 w' (es.set i (.blk gt 84 [.int .i64 e])) := by
 have hF1 := hF.alloc 86 [.pointer (some ⟨gt, 0, none⟩)]
 have hF2 := hF1.alloc 135 [.pointer (some ⟨9, 86, none⟩), .pointer (some ⟨w.heap.size, 0, none⟩), .int .u64 150]
 have hF3 := hF2.alloc 135 [.pointer (some ⟨9, 86, none⟩), .pointer (some ⟨w.heap.size, 0, none⟩), .int .u64 150]
 have hF4 := hF3.alloc 84 [.int .i64 e]
 obtain ⟨W2, st, hF5⟩ := xset hF4 (i := i + 4) (j := 0) hi rfl
 have hsz : (((w.alloc (.cells ([.pointer (some ⟨gt, 0, none⟩)] : List Value).toArray 86)).alloc (.cells ([.pointer (some ⟨9, 86, none⟩), .pointer (some ⟨w.heap.size, 0, none⟩), .int .u64 150] : List Value).toArray 135)).alloc (.cells ([.pointer (some ⟨9, 86, none⟩), .pointer (some ⟨w.heap.size, 0, none⟩), .int .u64 150] : List Value).toArray 135)).heap.size = w.heap.size + 1 + 1 + 1 := by simp
 rw [hsz] at st
 have hF6 : Fr X w0 W2 (es.set i (.blk gt 84 [.int .i64 e])) := hF5.tail.tail.tail.tail
 have h67 := @run_callFunc_extern Tryz.prog 67 _ (fun args => ReflectliteValue.unpack (args.getD 0 (.tuple #[]))) Tryz.func67 (by kernel_rfl) (by kernel_rfl) (by kernel_rfl) (by kernel_rfl)
 have h68 := @run_callFunc_extern Tryz.prog 68 _ (ReflectliteValue.methodAny (ReflectliteValue.valueError "reflectlite.Value.Type" 0) (fun t _ _ _ => ReflectliteType.toType t)) Tryz.func68 (by kernel_rfl) (by kernel_rfl) (by kernel_rfl) (by kernel_rfl)
 have h69 := @run_callFunc_extern Tryz.prog 69 _ (ReflectliteValue.method (ReflectliteValue.valueError "reflectlite.Value.IsNil" 0) ReflectliteValue.isNil) Tryz.func69 (by kernel_rfl) (by kernel_rfl) (by kernel_rfl) (by kernel_rfl)
 have h185 := @run_callFunc_extern Tryz.prog 185 _ (ReflectliteType.abiMethod fun t => do pure (.int .u8 (← Rtype.kind t))) Tryz.func185 (by kernel_rfl) (by kernel_rfl) (by kernel_rfl) (by kernel_rfl)
 have h196 := @run_callFunc_extern Tryz.prog 196 _ (ReflectliteType.method ReflectliteType.elem) Tryz.func196 (by kernel_rfl) (by kernel_rfl) (by kernel_rfl) (by kernel_rfl)
 have h197 := @run_callFunc_extern Tryz.prog 197 _ (ReflectliteType.relation "Implements" ReflectliteType.implements_) Tryz.func197 (by kernel_rfl) (by kernel_rfl) (by kernel_rfl) (by kernel_rfl)
 have h95 := @run_callFunc_extern Tryz.prog 95 _ (ReflectliteType.typeOf) Tryz.func95 (by kernel_rfl) (by kernel_rfl) (by kernel_rfl) (by kernel_rfl)
 have h194 := @run_callFunc_extern Tryz.prog 194 _ (ReflectliteType.relation "AssignableTo" ReflectliteType.assignableTo) Tryz.func194 (by kernel_rfl) (by kernel_rfl) (by kernel_rfl) (by kernel_rfl)
 have h96 := @run_callFunc_extern Tryz.prog 96 _ (ReflectliteValue.method (ReflectliteValue.valueError "reflectlite.Value.Elem" 0) ReflectliteValue.elem) Tryz.func96 (by kernel_rfl) (by kernel_rfl) (by kernel_rfl) (by kernel_rfl)
 have h97 := @run_callFunc_extern Tryz.prog 97 _ (ReflectliteValue.set) Tryz.func97 (by kernel_rfl) (by kernel_rfl) (by kernel_rfl) (by kernel_rfl)
 have tO := xtypeOfE
 have mA := xmAss
 have aE := xassE
 have vE := xvalueOfE
 have fP := xvalueOfP
 have tP := xtypeP
 have mK := xmKind
 have mE := xmElem
 have mI := xmImpl
 have kP := xkindP
 have kE := xkindE
 have eP := xelemP
 have iE := ximplE
 have hlt : 0 < w.heap.size := by
  rcases Nat.eq_zero_or_pos w.heap.size with h0 | h
  ·simp [World.cell?, h0] at hg
  ·exact h
 have n8 := xisNilP ⟨w.heap.size, 0, none⟩ ⟨gt, 0, none⟩ ((w.alloc (.cells #[.pointer (some ⟨gt, 0, none⟩)] 86)).alloc (.cells #[.pointer (some ⟨9, 86, none⟩), .pointer (some ⟨w.heap.size, 0, none⟩), .int .u64 150] 135)) (by simp)
 have hg2 : ((w.alloc (.cells #[.pointer (some ⟨gt, 0, none⟩)] 86)).alloc (.cells #[.pointer (some ⟨9, 86, none⟩), .pointer (some ⟨w.heap.size, 0, none⟩), .int .u64 150] 135)).cell? ⟨0, 0, none⟩ = some (.iface 177 (.agg #[.pointer (some ⟨9, 80, none⟩)])) := by
  rw [World.cell?_alloc_lt _ _ ⟨0, 0, none⟩ (by simp), World.cell?_alloc_lt _ _ ⟨0, 0, none⟩ hlt]; exact hg
 have el := xelemVP ⟨w.heap.size, 0, none⟩ ⟨gt, 0, none⟩ (((w.alloc (.cells #[.pointer (some ⟨gt, 0, none⟩)] 86)).alloc (.cells #[.pointer (some ⟨9, 86, none⟩), .pointer (some ⟨w.heap.size, 0, none⟩), .int .u64 150] 135)).alloc (.cells #[.pointer (some ⟨9, 86, none⟩), .pointer (some ⟨w.heap.size, 0, none⟩), .int .u64 150] 135)) (by rw [World.cell?_alloc_lt _ _ ⟨w.heap.size, 0, none⟩ (by simp; omega)]; simp)
 clear hF hF1 hF2 hF3 hF4 hF5
 replace hF6 := box hF6
 go_enter Tryz.func32, Tryz.ntmps32
 go_wp2
 refine wp_loop_rounds 1 ?_
 rw [rounds_succ]
 go_wp2
 go_ret
 exact ⟨rfl, hF6.out⟩
end Go.Proofs.YtlhicfpmlncomaaGreatDoor

namespace Go.Proofs.YtlhicfpmlncomaaGreatDoor
set_option linter.unusedSimpArgs false
set_option linter.unusedVariables false
/-- A fault has a number. -/
def JEr {α : Type} (r : JR α) : Prop := ∀ x, r = .error x → x.2 ≠ 0
theorem JEr.ok {α : Type} {v : α} : JEr (.ok v) := fun _ h => by cases h
theorem JEr.err {α : Type} {p e : Nat} (h : e ≠ 0) : JEr (.error (p, e) : JR α) := fun _ h' => by injection h' with h'; subst h'; exact h
theorem JEr.up {α β : Type} {r : JR α} {x : Nat × Nat} (h : JEr r) (hx : r = .error x) : JEr (.error x : JR β) := fun y h' => by injection h' with h'; subst h'; exact h _ hx
theorem jNext_er (b : List UInt8) (p : Nat) : JEr (jNext b p) := by
 unfold jNext
 split
 ·exact .err (by decide)
 ·exact .ok
theorem jWord_er (b : List UInt8) : ∀ (w : List UInt8) (p : Nat), JEr (jWord b w p)
 | [], p => .ok
 | c :: w, p => by
  rw [jWord]
  split
  ·exact .err (by decide)
  ·split
   ·exact jWord_er b w _
   ·exact .err (by decide)
theorem jNumber_er (b : List UInt8) (p : Nat) : JEr (jNumber b p) := by
 unfold jNumber
 simp only []
 split
 ·exact .err (by decide)
 ·exact .ok
theorem jUnit_er (b : List UInt8) (s : Nat) : ∀ (k n p : Nat), JEr (jUnit b s k n p)
 | 0, _, _ => .ok
 | k + 1, n, p => by
  rw [jUnit]
  split
  ·exact .err (by decide)
  ·split
   ·exact .err (by decide)
   ·exact jUnit_er b s k _ _
theorem jEscape_er (b : List UInt8) (p : Nat) : JEr (jEscape b p) := by
 unfold jEscape
 split
 ·exact .err (by decide)
 rename_i c _
 by_cases h1 : c = 34 ∨ c = 92 ∨ c = 47
 ·rw [if_pos h1]; exact .ok
 rw [if_neg h1]
 by_cases h2 : c = 98
 ·rw [if_pos h2]; exact .ok
 rw [if_neg h2]
 by_cases h2 : c = 102
 ·rw [if_pos h2]; exact .ok
 rw [if_neg h2]
 by_cases h2 : c = 110
 ·rw [if_pos h2]; exact .ok
 rw [if_neg h2]
 by_cases h2 : c = 114
 ·rw [if_pos h2]; exact .ok
 rw [if_neg h2]
 by_cases h2 : c = 116
 ·rw [if_pos h2]; exact .ok
 rw [if_neg h2]
 by_cases h2 : c = 117
 ·rw [if_pos h2]
  split
  ·rename_i h; exact (jUnit_er _ _ _ _ _).up h
  split
  ·split
   ·exact .err (by decide)
   split
   ·exact .err (by decide)
   split
   ·exact .err (by decide)
   split
   ·exact .err (by decide)
   split
   ·rename_i h; exact (jUnit_er _ _ _ _ _).up h
   split
   ·exact .ok
   ·exact .err (by decide)
  ·split
   ·exact .err (by decide)
   ·exact .ok
 ·rw [if_neg h2]; exact .err (by decide)
theorem jTextL_er (b : List UInt8) : ∀ (f p : Nat) (out : List UInt8), JEr (jTextL b f p out)
 | 0, _, _ => .err (by decide)
 | f + 1, p, out => by
  rw [jTextL]
  repeat' split
  all_goals first
   | exact .ok
   | exact .err (by decide)
   | exact (jEscape_er _ _).up (by assumption)
   | exact jTextL_er b f _ _
theorem jText_er (b : List UInt8) (p : Nat) : JEr (jText b p) := by
 unfold jText
 split
 ·exact (jWord_er _ _ _).up (by assumption)
 ·exact jTextL_er _ _ _ _
theorem jName_er (b : List UInt8) (ns : List (List UInt8)) (p : Nat) : JEr (jName b ns p) := by
 unfold jName
 repeat' split
 all_goals first
  | exact .ok
  | exact .err (by decide)
  | exact (jText_er _ _).up (by assumption)
  | exact (jWord_er _ _ _).up (by assumption)
theorem jManyL_er (b : List UInt8) (kind : Int) (fin : UInt8) {val : Nat → Nat → JR (JV × Nat × Nat)} (hv : ∀ p m, JEr (val p m)) : ∀ (f p m : Nat) (ns : List (List UInt8)) (ks : List JV), JEr (jManyL b kind fin val f p m ns ks)
 | 0, _, _, _, _ => .err (by decide)
 | f + 1, p, m, ns, ks => by
  rw [jManyL]
  have hn : JEr (if kind = 6 then jName b ns p else .ok ([], p)) := by
   split
   ·exact jName_er _ _ _
   ·exact .ok
  split
  ·exact hn.up (by assumption)
  split
  ·exact (hv _ _).up (by assumption)
  split
  ·exact (jNext_er _ _).up (by assumption)
  split
  ·exact .ok
  split
  ·exact (jWord_er _ _ _).up (by assumption)
  ·exact jManyL_er b kind fin hv f _ _ _ _
theorem jMany_er (b : List UInt8) (kind : Int) (fin : UInt8) {val : Option (Nat → Nat → JR (JV × Nat × Nat))} (hv : ∀ f, val = some f → ∀ p m, JEr (f p m)) (p m : Nat) : JEr (jMany b kind fin val p m) := by
 unfold jMany
 split
 ·exact .err (by decide)
 ·split
  ·exact (jNext_er _ _).up (by assumption)
  ·split
   ·exact .ok
   ·exact jManyL_er b kind fin (hv _ rfl) _ _ _ _ _
theorem jLit_er (b w : List UInt8) (v : JV) (p m : Nat) : JEr (jLit b w v p m) := by
 unfold jLit
 split
 ·exact (jWord_er _ _ _).up (by assumption)
 ·exact .ok
theorem jValueW_er (b : List UInt8) {val : Option (Nat → Nat → JR (JV × Nat × Nat))} (hv : ∀ f, val = some f → ∀ p m, JEr (f p m)) (p m : Nat) : JEr (jValueW b val p m) := by
 unfold jValueW
 split
 ·exact .err (by decide)
 repeat' split
 all_goals first
  | exact .ok
  | exact .err (by decide)
  | exact jLit_er _ _ _ _ _
  | exact (jNumber_er _ _).up (by assumption)
  | exact (jText_er _ _).up (by assumption)
  | exact jMany_er _ _ _ hv _ _
theorem jValue_er (b : List UInt8) : ∀ (d p m : Nat), JEr (jValue b d p m)
 | 0, p, m => by rw [jValue]; exact jValueW_er b (fun f h => by cases h) p m
 | d + 1, p, m => by rw [jValue]; exact jValueW_er b (fun f h => by injection h with h; subst h; exact jValue_er b d) p m
theorem jParse_er (b : List UInt8) : JEr (jParse b) := by
 unfold jParse
 split
 ·exact .err (by decide)
 ·split
  ·exact (jValue_er _ _ _ _).up (by assumption)
  ·split
   ·exact .err (by decide)
   ·exact .ok
end Go.Proofs.YtlhicfpmlncomaaGreatDoor

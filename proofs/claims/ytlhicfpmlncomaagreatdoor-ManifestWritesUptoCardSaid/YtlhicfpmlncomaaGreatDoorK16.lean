/-
 Layer 8: the program's put and text, walked: a member more, in the caller's frame.
 Layer 7: the walks of a sum's text, further: the document's Parse; both Text.
 Layer 8: the document's told, walked.
 Layer 8: the program's notes and told, walked.
 Layer 6: the document's Size and Valid, walked.
-/
import Derived.Test.YtlhicfpmlncomaaGreatDoorK15
import Derived.Test.YtlhicfpmlncomaaGreatDoorK02
import Derived.Test.YtlhicfpmlncomaaGreatDoorK06
import Derived.Test.YtlhicfpmlncomaaGreatDoorK09
import Derived.Test.YtlhicfpmlncomaaGreatDoorK11
import Derived.Test.YtlhicfpmlncomaaGreatDoorK07
import Derived.Lib.ValidLaws
import Derived.Test.YtlhicfpmlncomaaGreatDoorK00
set_option linter.unusedSimpArgs false
set_option linter.unusedVariables false
namespace Go.Proofs.YtlhicfpmlncomaaGreatDoor
open Go.RowKit
set_option maxRecDepth 20000 in
set_option maxHeartbeats 6400000 in
theorem oput_any {X : List Nat} {w0 w : World} {es : List Ent} {g : Nat} {k num : Int} {t : ByteArray} {An Ak : Option Addr} {nn cn nk ck : Nat} {ns : List (List UInt8)} {xs : List Value} (s : List UInt8) (cs : List Value)
  (hF : Fr X w0 w (.own w0.heap.size 9 1 (.slice An nn cn) nn (ns.map strv) :: .own w0.heap.size 76 5 (.slice Ak nk ck) nk xs :: .blk g 116 (vlL k num t (.slice An nn cn) (.slice Ak nk ck)) :: es)) (hnn : nn ≤ 1000000) (hnk : nk ≤ 1000000) (hcl : cs.length = 5) (hco : ∀ u ∈ cs, u.oneCell' = true) :
  Calls Tryz.prog 57 #[.pointer (some ⟨g, 0, none⟩), .string ⟨s.toArray⟩, .agg cs.toArray] w fun e w' => ∃ A1 c1 A2 c2, nn + 1 ≤ c1 ∧ nk + 1 ≤ c2 ∧ e = .returned (.tuple #[]) ∧ Fr X w0 w' (.own w0.heap.size 9 1 (.slice A1 (nn + 1) c1) (nn + 1) ((ns ++ [s]).map strv) :: .own w0.heap.size 76 5 (.slice A2 (nk + 1) c2) (nk + 1) (xs ++ cs) :: .blk g 116 (vlL k num t (.slice A1 (nn + 1) c1) (.slice A2 (nk + 1) c2)) :: es) := by
 have hxl := box (hF.ownLen (i := 1) rfl)
 replace hcl := box hcl
 replace hco := box hco
 go_enter Tryz.func57, Tryz.ntmps57
 go_upto_region 2 with (first | ((with_reducible refine lsx (wp_fbox hF (cs := cs) rfl (by with_unfolding_all rfl) (by with_unfolding_all rfl) ?_)); intro w1 g1 hF1 hz1) | (with_reducible refine lsx (wp_fld3 hF1 uq48 rfl (by with_unfolding_all exact ⟨_, rfl, rfl⟩) rfl ?_)) | ((with_reducible refine lsx (wp_fbsl T_strs hF1 (vs := [.string ⟨s.toArray⟩]) (by with_unfolding_all rfl) (by with_unfolding_all rfl) (by with_unfolding_all rfl) (by decide) (by simp [Value.cells]) ?_)); intro w2 g2 hF2 hz2) | ((with_reducible refine lsx (wp_fappG T_strs hF2 (i := 2) rfl (Nat.le_refl _) hF2.rdOwn0 (strs_one1 _) (by with_unfolding_all exact ⟨_, _, rfl, rfl, rfl⟩) (by unfold maxLen; omega) (by omega) ?_)); intro v3 w3 hF3 hz3; simp only [zZ, zN] at hF3; obtain ⟨A3, c3, rfl, hc3⟩ := hF3.ownParts (i := 2) rfl) | ((with_reducible refine lsx (wp_fst4 hF3 (by with_unfolding_all exact ⟨_, _, rfl, rfl, rfl⟩) (by kernel_rfl) rfl rfl (by rw [vlL_len]; decide) (vlL_3 (a' := .slice A3 (nn + 1) c3)) ?_)); intro w4 hF4 hz4))
 have hFd := hF4.drew
 clear hF1 hF2 hF3 hF4
 refine wp_region_held (S := fun w' => w'.heap[g1]? = some (.cells (List.toArray cs) 76 (0, 0))) (by kernel_rfl) ?_
 change wpAnyH _ _ _ _ _ _ _ _ (World.drew _)
 refine tkp 0 (hFd.blk (i := 1) rfl) ?_
 (try simp only [zP, zQ, zS, zZ, zN])
 refine tkp 1 (hFd.blk (i := 1) rfl) ?_
 (try simp only [zP, zQ, zS, zZ, zN])
 refine tkp 2 (hFd.blk (i := 1) rfl) ?_
 (try simp only [zP, zQ, zS, zZ, zN])
 refine tkp 3 (hFd.blk (i := 1) rfl) ?_
 (try simp only [zP, zQ, zS, zZ, zN])
 refine tky 5 (y := yi_fldA (by with_unfolding_all rfl) (fun _ h => h) uq76 rfl (by with_unfolding_all exact ⟨_, rfl, rfl⟩) (ds := cs) (by rw [hcl.out]; kernel_rfl) (take_all _)) (s := (hFd.blk (i := 1) rfl)) (h := ?_)
 (try simp only [zP, zQ, zS, zZ, zN])
 refine wpAnyH_ready (rs := [4, 7]) (by kernel_rfl) (by simp) ?_
 refine AllReadyH.cons (by simp only [List.getElem?_toArray, List.getElem?_cons_zero, List.getElem?_cons_succ]; rfl) (fun K hK => ?_) ?_
 ·refine stp (by with_unfolding_all rfl) (wp_fld hFd (i := 4) rfl uq74 rfl (by with_unfolding_all exact ⟨_, rfl, rfl⟩) rfl ?_)
  refine hK.out _ _ ((hFd.blk (i := 1) rfl)) (fun _ => ?_)
  clear hK K
  (try simp only [zP, zQ, zS, zZ, zN])
  refine tkp 6 (hFd.blk (i := 1) rfl) ?_
  (try simp only [zP, zQ, zS, zZ, zN])
  refine rdy1 7 (fun K hK => ?_)
  refine stp (by with_unfolding_all rfl) (wp_fbs1 T_vals hFd (by with_unfolding_all rfl) (ds := vl0) (by with_unfolding_all rfl) rfl (by decide) ?_)
  intro w31 g31 hF31 hz31
  refine hK.out _ _ ((hF31.blk (i := 2) rfl)) (fun _ => ?_)
  clear hK K
  (try simp only [zP, zQ, zS, zZ, zN])
  refine rdy1 8 (fun K hK => ?_)
  refine stp (by with_unfolding_all rfl) (wp_fappG T_vals hF31 (i := 4) rfl (Nat.le_refl _) (hF31.rdOwn (i := 0) rfl) vlL_one (by with_unfolding_all exact ⟨_, _, rfl, rfl, rfl⟩) (by unfold maxLen; omega) (by omega) ?_)
  intro v32 w32 hF32 hz32
  (try simp only [zZ, zN] at hF32)
  obtain ⟨A32, c32, rfl, hc32⟩ := hF32.ownParts (i := 4) rfl
  refine hK.out _ _ ((hF32.blk (i := 2) rfl)) (fun _ => ?_)
  clear hK K
  (try simp only [zP, zQ, zS, zZ, zN])
  refine tkp 11 (hF32.blk (i := 2) rfl) ?_
  (try simp only [zP, zQ, zS, zZ, zN])
  refine tkp 12 (hF32.blk (i := 2) rfl) ?_
  (try simp only [zP, zQ, zS, zZ, zN])
  refine tkp 13 (hF32.blk (i := 2) rfl) ?_
  (try simp only [zP, zQ, zS, zZ, zN])
  refine wpAnyH_ready (rs := [9, 14]) (by kernel_rfl) (by simp) ?_
  refine AllReadyH.cons (by simp only [List.getElem?_toArray, List.getElem?_cons_zero, List.getElem?_cons_succ]; rfl) (fun K hK => ?_) ?_
  ·refine stp (by with_unfolding_all rfl) (wp_indexAddr T_vals (hF32.rdOwn (i := 4) rfl) (by with_unfolding_all exact ⟨_, _, _, _, rfl, rfl, rfl⟩) (by omega) (by omega) ?_)
   refine hK.out _ _ ((hF32.blk (i := 2) rfl)) (fun _ => ?_)
   clear hK K
   (try simp only [zP, zQ, zS, zZ, zN])
   refine wpAnyH_ready (rs := [10, 14]) (by kernel_rfl) (by simp) ?_
   refine AllReadyH.cons (by simp only [List.getElem?_toArray, List.getElem?_cons_zero, List.getElem?_cons_succ]; rfl) (fun K hK => ?_) ?_
   ·refine stp (by with_unfolding_all rfl) (wp_fstO hF32 (i := 4) rfl hxl.out (by with_unfolding_all exact ⟨_, _, rfl, rfl, rfl⟩) (by kernel_rfl) hcl.out hco.out ?_)
    intro w33 hF33 hz33
    (try simp only [zZ, zN] at hF33)
    refine hK.out _ _ ((hF33.blk (i := 2) rfl)) (fun _ => ?_)
    clear hK K
    (try simp only [zP, zQ, zS, zZ, zN])
    refine rdy1 14 (fun K hK => ?_)
    refine stp (by with_unfolding_all rfl) (wp_fst hF33 (i := 5) rfl (v := .slice A32 (nk + 1) c32) (by with_unfolding_all exact ⟨_, _, rfl, rfl, rfl⟩) (by kernel_rfl) rfl rfl (by rw [vlL_len]; decide) ?_)
    intro w34 hF34 hz34
    (try simp only [zZ, zN] at hF34)
    rw [(vlL_4 (k := k) (n := num) (t := t) (a := .slice A3 (nn + 1) c3) (b := .slice Ak nk ck))] at hF34
    refine hK.out _ _ ((hF34.blk (i := 2) rfl)) (fun _ => ?_)
    clear hK K
    (try simp only [zP, zQ, zS, zZ, zN])
    refine wpAnyH_done (by kernel_rfl) ?_ _
    go_wp2_with fail
    go_end0
    exact ⟨A3, c3, A32, c32, hc3, hc32, rfl, by
     rw [List.map_append]
     exact hF34.tail.tail.tail⟩
   refine AllReadyH.cons (by simp only [List.getElem?_toArray, List.getElem?_cons_zero, List.getElem?_cons_succ]; rfl) (fun K hK => ?_) ?_
   ·refine stp (by with_unfolding_all rfl) (wp_fst hF32 (i := 5) rfl (v := .slice A32 (nk + 1) c32) (by with_unfolding_all exact ⟨_, _, rfl, rfl, rfl⟩) (by kernel_rfl) rfl rfl (by rw [vlL_len]; decide) ?_)
    intro w33 hF33 hz33
    (try simp only [zZ, zN] at hF33)
    rw [(vlL_4 (k := k) (n := num) (t := t) (a := .slice A3 (nn + 1) c3) (b := .slice Ak nk ck))] at hF33
    refine hK.out _ _ ((hF33.blk (i := 2) rfl)) (fun _ => ?_)
    clear hK K
    (try simp only [zP, zQ, zS, zZ, zN])
    refine rdy1 10 (fun K hK => ?_)
    refine stp (by with_unfolding_all rfl) (wp_fstO hF33 (i := 4) rfl hxl.out (by with_unfolding_all exact ⟨_, _, rfl, rfl, rfl⟩) (by kernel_rfl) hcl.out hco.out ?_)
    intro w34 hF34 hz34
    (try simp only [zZ, zN] at hF34)
    refine hK.out _ _ ((hF34.blk (i := 2) rfl)) (fun _ => ?_)
    clear hK K
    (try simp only [zP, zQ, zS, zZ, zN])
    refine wpAnyH_done (by kernel_rfl) ?_ _
    go_wp2_with fail
    go_end0
    exact ⟨A3, c3, A32, c32, hc3, hc32, rfl, by
     rw [List.map_append]
     exact hF34.tail.tail.tail⟩
   exact AllReadyH.nil
  refine AllReadyH.cons (by simp only [List.getElem?_toArray, List.getElem?_cons_zero, List.getElem?_cons_succ]; rfl) (fun K hK => ?_) ?_
  ·refine stp (by with_unfolding_all rfl) (wp_fst hF32 (i := 5) rfl (v := .slice A32 (nk + 1) c32) (by with_unfolding_all exact ⟨_, _, rfl, rfl, rfl⟩) (by kernel_rfl) rfl rfl (by rw [vlL_len]; decide) ?_)
   intro w33 hF33 hz33
   (try simp only [zZ, zN] at hF33)
   rw [(vlL_4 (k := k) (n := num) (t := t) (a := .slice A3 (nn + 1) c3) (b := .slice Ak nk ck))] at hF33
   refine hK.out _ _ ((hF33.blk (i := 2) rfl)) (fun _ => ?_)
   clear hK K
   (try simp only [zP, zQ, zS, zZ, zN])
   refine rdy1 9 (fun K hK => ?_)
   refine stp (by with_unfolding_all rfl) (wp_indexAddr T_vals (hF33.rdOwn (i := 4) rfl) (by with_unfolding_all exact ⟨_, _, _, _, rfl, rfl, rfl⟩) (by omega) (by omega) ?_)
   refine hK.out _ _ ((hF33.blk (i := 2) rfl)) (fun _ => ?_)
   clear hK K
   (try simp only [zP, zQ, zS, zZ, zN])
   refine rdy1 10 (fun K hK => ?_)
   refine stp (by with_unfolding_all rfl) (wp_fstO hF33 (i := 4) rfl hxl.out (by with_unfolding_all exact ⟨_, _, rfl, rfl, rfl⟩) (by kernel_rfl) hcl.out hco.out ?_)
   intro w34 hF34 hz34
   (try simp only [zZ, zN] at hF34)
   refine hK.out _ _ ((hF34.blk (i := 2) rfl)) (fun _ => ?_)
   clear hK K
   (try simp only [zP, zQ, zS, zZ, zN])
   refine wpAnyH_done (by kernel_rfl) ?_ _
   go_wp2_with fail
   go_end0
   exact ⟨A3, c3, A32, c32, hc3, hc32, rfl, by
    rw [List.map_append]
    exact hF34.tail.tail.tail⟩
  exact AllReadyH.nil
 refine AllReadyH.cons (by simp only [List.getElem?_toArray, List.getElem?_cons_zero, List.getElem?_cons_succ]; rfl) (fun K hK => ?_) ?_
 ·refine stp (by with_unfolding_all rfl) (wp_fbs1 T_vals hFd (by with_unfolding_all rfl) (ds := vl0) (by with_unfolding_all rfl) rfl (by decide) ?_)
  intro w31 g31 hF31 hz31
  refine hK.out _ _ ((hF31.blk (i := 2) rfl)) (fun _ => ?_)
  clear hK K
  (try simp only [zP, zQ, zS, zZ, zN])
  refine rdy1 4 (fun K hK => ?_)
  refine stp (by with_unfolding_all rfl) (wp_fld hF31 (i := 5) rfl uq74 rfl (by with_unfolding_all exact ⟨_, rfl, rfl⟩) rfl ?_)
  refine hK.out _ _ ((hF31.blk (i := 2) rfl)) (fun _ => ?_)
  clear hK K
  (try simp only [zP, zQ, zS, zZ, zN])
  refine tkp 6 (hF31.blk (i := 2) rfl) ?_
  (try simp only [zP, zQ, zS, zZ, zN])
  refine rdy1 8 (fun K hK => ?_)
  refine stp (by with_unfolding_all rfl) (wp_fappG T_vals hF31 (i := 4) rfl (Nat.le_refl _) (hF31.rdOwn (i := 0) rfl) vlL_one (by with_unfolding_all exact ⟨_, _, rfl, rfl, rfl⟩) (by unfold maxLen; omega) (by omega) ?_)
  intro v32 w32 hF32 hz32
  (try simp only [zZ, zN] at hF32)
  obtain ⟨A32, c32, rfl, hc32⟩ := hF32.ownParts (i := 4) rfl
  refine hK.out _ _ ((hF32.blk (i := 2) rfl)) (fun _ => ?_)
  clear hK K
  (try simp only [zP, zQ, zS, zZ, zN])
  refine tkp 11 (hF32.blk (i := 2) rfl) ?_
  (try simp only [zP, zQ, zS, zZ, zN])
  refine tkp 12 (hF32.blk (i := 2) rfl) ?_
  (try simp only [zP, zQ, zS, zZ, zN])
  refine tkp 13 (hF32.blk (i := 2) rfl) ?_
  (try simp only [zP, zQ, zS, zZ, zN])
  refine wpAnyH_ready (rs := [9, 14]) (by kernel_rfl) (by simp) ?_
  refine AllReadyH.cons (by simp only [List.getElem?_toArray, List.getElem?_cons_zero, List.getElem?_cons_succ]; rfl) (fun K hK => ?_) ?_
  ·refine stp (by with_unfolding_all rfl) (wp_indexAddr T_vals (hF32.rdOwn (i := 4) rfl) (by with_unfolding_all exact ⟨_, _, _, _, rfl, rfl, rfl⟩) (by omega) (by omega) ?_)
   refine hK.out _ _ ((hF32.blk (i := 2) rfl)) (fun _ => ?_)
   clear hK K
   (try simp only [zP, zQ, zS, zZ, zN])
   refine wpAnyH_ready (rs := [10, 14]) (by kernel_rfl) (by simp) ?_
   refine AllReadyH.cons (by simp only [List.getElem?_toArray, List.getElem?_cons_zero, List.getElem?_cons_succ]; rfl) (fun K hK => ?_) ?_
   ·refine stp (by with_unfolding_all rfl) (wp_fstO hF32 (i := 4) rfl hxl.out (by with_unfolding_all exact ⟨_, _, rfl, rfl, rfl⟩) (by kernel_rfl) hcl.out hco.out ?_)
    intro w33 hF33 hz33
    (try simp only [zZ, zN] at hF33)
    refine hK.out _ _ ((hF33.blk (i := 2) rfl)) (fun _ => ?_)
    clear hK K
    (try simp only [zP, zQ, zS, zZ, zN])
    refine rdy1 14 (fun K hK => ?_)
    refine stp (by with_unfolding_all rfl) (wp_fst hF33 (i := 5) rfl (v := .slice A32 (nk + 1) c32) (by with_unfolding_all exact ⟨_, _, rfl, rfl, rfl⟩) (by kernel_rfl) rfl rfl (by rw [vlL_len]; decide) ?_)
    intro w34 hF34 hz34
    (try simp only [zZ, zN] at hF34)
    rw [(vlL_4 (k := k) (n := num) (t := t) (a := .slice A3 (nn + 1) c3) (b := .slice Ak nk ck))] at hF34
    refine hK.out _ _ ((hF34.blk (i := 2) rfl)) (fun _ => ?_)
    clear hK K
    (try simp only [zP, zQ, zS, zZ, zN])
    refine wpAnyH_done (by kernel_rfl) ?_ _
    go_wp2_with fail
    go_end0
    exact ⟨A3, c3, A32, c32, hc3, hc32, rfl, by
     rw [List.map_append]
     exact hF34.tail.tail.tail⟩
   refine AllReadyH.cons (by simp only [List.getElem?_toArray, List.getElem?_cons_zero, List.getElem?_cons_succ]; rfl) (fun K hK => ?_) ?_
   ·refine stp (by with_unfolding_all rfl) (wp_fst hF32 (i := 5) rfl (v := .slice A32 (nk + 1) c32) (by with_unfolding_all exact ⟨_, _, rfl, rfl, rfl⟩) (by kernel_rfl) rfl rfl (by rw [vlL_len]; decide) ?_)
    intro w33 hF33 hz33
    (try simp only [zZ, zN] at hF33)
    rw [(vlL_4 (k := k) (n := num) (t := t) (a := .slice A3 (nn + 1) c3) (b := .slice Ak nk ck))] at hF33
    refine hK.out _ _ ((hF33.blk (i := 2) rfl)) (fun _ => ?_)
    clear hK K
    (try simp only [zP, zQ, zS, zZ, zN])
    refine rdy1 10 (fun K hK => ?_)
    refine stp (by with_unfolding_all rfl) (wp_fstO hF33 (i := 4) rfl hxl.out (by with_unfolding_all exact ⟨_, _, rfl, rfl, rfl⟩) (by kernel_rfl) hcl.out hco.out ?_)
    intro w34 hF34 hz34
    (try simp only [zZ, zN] at hF34)
    refine hK.out _ _ ((hF34.blk (i := 2) rfl)) (fun _ => ?_)
    clear hK K
    (try simp only [zP, zQ, zS, zZ, zN])
    refine wpAnyH_done (by kernel_rfl) ?_ _
    go_wp2_with fail
    go_end0
    exact ⟨A3, c3, A32, c32, hc3, hc32, rfl, by
     rw [List.map_append]
     exact hF34.tail.tail.tail⟩
   exact AllReadyH.nil
  refine AllReadyH.cons (by simp only [List.getElem?_toArray, List.getElem?_cons_zero, List.getElem?_cons_succ]; rfl) (fun K hK => ?_) ?_
  ·refine stp (by with_unfolding_all rfl) (wp_fst hF32 (i := 5) rfl (v := .slice A32 (nk + 1) c32) (by with_unfolding_all exact ⟨_, _, rfl, rfl, rfl⟩) (by kernel_rfl) rfl rfl (by rw [vlL_len]; decide) ?_)
   intro w33 hF33 hz33
   (try simp only [zZ, zN] at hF33)
   rw [(vlL_4 (k := k) (n := num) (t := t) (a := .slice A3 (nn + 1) c3) (b := .slice Ak nk ck))] at hF33
   refine hK.out _ _ ((hF33.blk (i := 2) rfl)) (fun _ => ?_)
   clear hK K
   (try simp only [zP, zQ, zS, zZ, zN])
   refine rdy1 9 (fun K hK => ?_)
   refine stp (by with_unfolding_all rfl) (wp_indexAddr T_vals (hF33.rdOwn (i := 4) rfl) (by with_unfolding_all exact ⟨_, _, _, _, rfl, rfl, rfl⟩) (by omega) (by omega) ?_)
   refine hK.out _ _ ((hF33.blk (i := 2) rfl)) (fun _ => ?_)
   clear hK K
   (try simp only [zP, zQ, zS, zZ, zN])
   refine rdy1 10 (fun K hK => ?_)
   refine stp (by with_unfolding_all rfl) (wp_fstO hF33 (i := 4) rfl hxl.out (by with_unfolding_all exact ⟨_, _, rfl, rfl, rfl⟩) (by kernel_rfl) hcl.out hco.out ?_)
   intro w34 hF34 hz34
   (try simp only [zZ, zN] at hF34)
   refine hK.out _ _ ((hF34.blk (i := 2) rfl)) (fun _ => ?_)
   clear hK K
   (try simp only [zP, zQ, zS, zZ, zN])
   refine wpAnyH_done (by kernel_rfl) ?_ _
   go_wp2_with fail
   go_end0
   exact ⟨A3, c3, A32, c32, hc3, hc32, rfl, by
    rw [List.map_append]
    exact hF34.tail.tail.tail⟩
  exact AllReadyH.nil
 exact AllReadyH.nil
set_option maxRecDepth 20000 in
set_option maxHeartbeats 6400000 in
theorem otext_any {X : List Nat} {w0 w : World} {es : List Ent} {g : Nat} {k num : Int} {t : ByteArray} {An Ak : Option Addr} {nn cn nk ck : Nat} {ns : List (List UInt8)} {xs : List Value} (s x : List UInt8)
  (hF : Fr X w0 w (.own w0.heap.size 9 1 (.slice An nn cn) nn (ns.map strv) :: .own w0.heap.size 76 5 (.slice Ak nk ck) nk xs :: .blk g 116 (vlL k num t (.slice An nn cn) (.slice Ak nk ck)) :: es)) (hnn : nn ≤ 1000000) (hnk : nk ≤ 1000000) :
  Calls Tryz.prog 58 #[.pointer (some ⟨g, 0, none⟩), .string ⟨s.toArray⟩, .string ⟨x.toArray⟩] w fun e w' => ∃ A1 c1 A2 c2, nn + 1 ≤ c1 ∧ nk + 1 ≤ c2 ∧ e = .returned (.tuple #[]) ∧ Fr X w0 w' (.own w0.heap.size 9 1 (.slice A1 (nn + 1) c1) (nn + 1) ((ns ++ [s]).map strv) :: .own w0.heap.size 76 5 (.slice A2 (nk + 1) c2) (nk + 1) (xs ++ (vlL 4 0 ⟨x.toArray⟩ (.slice none 0 0) (.slice none 0 0))) :: .blk g 116 (vlL k num t (.slice A1 (nn + 1) c1) (.slice A2 (nk + 1) c2)) :: es) := by
 go_enter Tryz.func58, Tryz.ntmps58
 go_wp2_with (first | (with_reducible refine lsx (wp_fbuild uq76 (z := .agg (List.toArray vl0)) (by kernel_rfl) (pl := vlP) (by kernel_rfl) (cs := (vlL 4 0 ⟨x.toArray⟩ (.slice none 0 0) (.slice none 0 0))) rfl (vs := [(0, .int .i64 4), (2, .string ⟨x.toArray⟩)]) (by with_unfolding_all rfl) (by with_unfolding_all rfl) ?_)))
 refine (oput_any s _ hF hnn hnk rfl vlL_one).mono ?_
 rintro e w2 ⟨A1, c1, A2, c2, h1, h2, rfl, hF2⟩
 go_wp2_with fail
 go_end0
 exact ⟨A1, c1, A2, c2, h1, h2, rfl, hF2⟩
end Go.Proofs.YtlhicfpmlncomaaGreatDoor

namespace Go.Proofs.YtlhicfpmlncomaaGreatDoor
open Go.RowKit
def part (l m : List UInt8) (j : Nat) : List UInt8 := l.take j ++ m.drop j
theorem str_app (a b : ByteArray) : (a ++ b).data.toList = a.data.toList ++ b.data.toList := by simp
theorem str_ext {a b : ByteArray} (h : a.data.toList = b.data.toList) : a = b := ByteArray.ext (Array.ext' h)
theorem dgT_str (d : List UInt8) : (⟨(dgT d).toArray⟩ : ByteArray) = ⟨#[115, 104, 97, 50, 53, 54, 58]⟩ ++ ⟨(hexL d).toArray⟩ := str_ext (by rw [str_app]; rfl)
set_option maxRecDepth 20000 in
set_option maxHeartbeats 800000 in
theorem dgText_any (d : List UInt8) (w : World) (hd : d.length = 32) : Calls Tryz.prog 82 #[.agg (d.map bv).toArray] w fun e w' => e = .returned (.string ⟨(dgT d).toArray⟩) ∧ Below w.heap.size w w' := by
 have hF0 := Fr.nil w
 replace hd := box hd
 have hdm : Box ((d.map bv).length = 32) := box (by rw [List.length_map]; exact hd.out)
 go_enter Tryz.func82, Tryz.ntmps82
 go_wp2_with (first | ((with_reducible refine lsx (wp_fbox hF0 (cs := (d.map bv)) rfl (by with_unfolding_all rfl) (by with_unfolding_all rfl) ?_)); intro w1 g1 hF1 hz1))
 have hr := hF1.rdBlk (i := 0) (off := 0) (n := 32) (xs := d.map bv) rfl hdm.out (by rw [List.drop_zero, List.take_of_length_le (by have := hdm.out; omega)])
 refine (hex_any _ 32 _ d _ (by omega) hr).mono ?_
 rintro e w2 ⟨rfl, hb2⟩
 have hF2 := hF1.call hb2
 have hlen : (hexL d).length ≤ 64 := by rw [hexL_len2, hd.out]; exact Nat.le_refl _
 go_wp2_with fail
 go_ret
 exact ⟨by rw [dgT_str]; rfl, hF2.below⟩
set_option maxRecDepth 20000 in
set_option maxHeartbeats 800000 in
theorem dgTextF_any (d : List UInt8) (w : World) (hd : d.length = 32) : Calls Tryz.prog 78 #[.agg (d.map bv).toArray] w fun e w' => e = .returned (.string ⟨(dgT d).toArray⟩) ∧ Below w.heap.size w w' := by
 have hF0 := Fr.nil w
 replace hd := box hd
 have hdm : Box ((d.map bv).length = 32) := box (by rw [List.length_map]; exact hd.out)
 go_enter Tryz.func78, Tryz.ntmps78
 go_wp2_with (first | ((with_reducible refine lsx (wp_fbox hF0 (cs := (d.map bv)) rfl (by with_unfolding_all rfl) (by with_unfolding_all rfl) ?_)); intro w1 g1 hF1 hz1))
 have hr := hF1.rdBlk (i := 0) (off := 0) (n := 32) (xs := d.map bv) rfl hdm.out (by rw [List.drop_zero, List.take_of_length_le (by have := hdm.out; omega)])
 refine (rhex_any _ 32 _ d _ (by omega) hr).mono ?_
 rintro e w2 ⟨rfl, hb2⟩
 have hF2 := hF1.call hb2
 have hlen : (hexL d).length ≤ 64 := by rw [hexL_len2, hd.out]; exact Nat.le_refl _
 go_wp2_with fail
 go_ret
 exact ⟨by rw [dgT_str]; rfl, hF2.below⟩
end Go.Proofs.YtlhicfpmlncomaaGreatDoor

namespace Go.Proofs.YtlhicfpmlncomaaGreatDoor
open Go.RowKit
theorem VTL.app : ∀ {ks ks' : List JV} {xs xs' : List Value} {TE TE' : List Ent}, VTL ks xs TE → VTL ks' xs' TE' → VTL (ks ++ ks') (xs ++ xs') (TE ++ TE')
 | [], ks', xs, xs', TE, TE', h, h' => by
  unfold VTL at h
  obtain ⟨rfl, rfl⟩ := h
  exact h'
 | k :: ks, ks', xs, xs', TE, TE', h, h' => by
  rw [VTL] at h
  obtain ⟨c1, ys, E1, E2, rfl, rfl, h1, h2⟩ := h
  rw [List.cons_append, VTL]
  exact ⟨c1, ys ++ xs', E1, E2 ++ TE', by simp, by simp, h1, VTL.app h2 h'⟩
theorem perm12 {α : Type} (a n k : α) (r : List α) : (a :: n :: k :: r).Perm (n :: k :: a :: r) := (List.Perm.swap _ _ _).trans ((List.Perm.swap _ _ _).cons _)
abbrev tLf : List Ent := [.rd none 1 0 [], .rd none 5 0 []]
theorem Fr.lf {X : List Nat} {w0 w : World} {es es' : List Ent} {a b : Ent} (h : Fr X w0 w (a :: b :: (es ++ es'))) : Fr X w0 w (a :: b :: ((es ++ tLf) ++ es')) :=
 ((h.pushNone 5).pushNone 1).perm (by
  have e1 : (Ent.rd none 1 0 [] :: Ent.rd none 5 0 [] :: a :: b :: (es ++ es')) = tLf ++ ((a :: b :: es) ++ es') := rfl
  have e2 : (a :: b :: ((es ++ tLf) ++ es')) = (a :: b :: es) ++ (tLf ++ es') := by simp
  rw [e1, e2]
  exact List.perm_append_comm_assoc _ _ _)
def TDesc (w : World) (v : JV) (e : Ending) (w' : World) : Prop := ∃ cs es, e = .returned (.agg cs.toArray) ∧ VT v cs es ∧ Fr [] w w' es
set_option maxRecDepth 20000 in
set_option maxHeartbeats 12800000 in
theorem rtold_any (d : MDesc) (cs : List Value) (w : World) (hD : RdD w d cs) (hB : d.notes.length ≤ 1000000) :
  Calls Tryz.prog 51 #[.agg cs.toArray] w (TDesc w (tDesc d)) := by
 obtain ⟨nt, hd', ⟨A, n, c, hnc, hn', rfl, hr'⟩, rfl⟩ := hD
 have htd : Box (tDesc d = .mk 6 0 [] (([] ++ [kMedia] ++ [kDigest] ++ [kSize]) ++ (tWith d.notes).map (·.1)) (([] ++ [jT d.media] ++ [jT (dgT d.dig)] ++ [jN d.size]) ++ (tWith d.notes).map (·.2))) := box (by
  show jO _ = _
  unfold jO
  rw [List.map_append, List.map_append]
  rfl)
 have hbd := box (show n ≤ 1000000 by omega)
 obtain ⟨m, hm⟩ : ∃ m, m = d.media := ⟨_, rfl⟩
 obtain ⟨dg, hdg⟩ : ∃ dg, dg = d.dig := ⟨_, rfl⟩
 obtain ⟨z, hz0⟩ : ∃ z, z = d.size := ⟨_, rfl⟩
 rw [← hm, ← hdg, ← hz0] at htd
 rw [← hm, ← hdg, ← hz0]
 rw [← hdg] at hd'
 clear hm hdg hz0
 have hd := box hd'
 have hr := box hr'
 have hn := box hn'
 have hdl := box (dsL_len (m := m) (z := z) (nt := .slice A n c) hd')
 clear hd' hr' hn' hB
 have hF0 := Fr.nil w
 go_enter Tryz.func51, Tryz.ntmps51
 go_wp2_with (first | ((with_reducible refine lsx (wp_fbox hF0 (cs := (dsL m dg z (.slice A n c))) rfl (by with_unfolding_all rfl) (by with_unfolding_all rfl) ?_)); intro w1 g1 hF1 hz1) | ((with_reducible refine lsx (wp_falloc hF1 (cs := vl0) (z := .agg (List.toArray (vl0))) rfl (by kernel_rfl) (by with_unfolding_all rfl) ?_)); intro w2 g2 hF2 hz2) | (with_reducible refine lsx (wp_fbuild uq51 (z := .agg (List.toArray vl0)) (by kernel_rfl) (pl := vlP) (by kernel_rfl) (cs := vl0) rfl (vs := []) (by with_unfolding_all rfl) (by with_unfolding_all rfl) ?_)) | (with_reducible refine lsx (wp_fld1 hF2 uq9 rfl (by with_unfolding_all exact ⟨_, rfl, rfl⟩) dsL_m0 ?_)))
 refine (rtext_any m _).mono ?_
 rintro e w3 ⟨rfl, hb3⟩
 have hF3 := hF2.call hb3
 have hF4 := (hF3.none_ w.heap.size 51 5).none_ w.heap.size 9 1
 clear hF0 hF1 hF2 hF3
 go_wp2_with fail
 refine (rput_any (ns := []) kMedia (vlL 4 0 ⟨(m).toArray⟩ (.slice none 0 0) (.slice none 0 0)) hF4 (by omega) (by omega) rfl vlL_one).mono ?_
 rintro e w5 ⟨A5, c5, B5, d5, hc5, hd5, rfl, hF5⟩
 clear hF4
 go_upto_region 2 with (first | ((with_reducible refine lsx (wp_falloc hF5 (cs := vl0) (z := .agg (List.toArray (vl0))) rfl (by kernel_rfl) (by with_unfolding_all rfl) ?_)); intro w6 g6 hF6 hz6) | ((with_reducible refine lsx (wp_fstA0 hF6 (by with_unfolding_all exact ⟨_, _, rfl, rfl, rfl⟩) (by rw [vlL_len]; kernel_rfl) vlL_one vlL_fit vlL_spl ?_)); intro w7 hF7 hz7))
 have hF8 := hF7.perm (perm12 _ _ _ _)
 have hFd := hF8.drew
 clear hF5 hF6 hF7 hF8
 refine wp_region_held (S := fun w' => w'.heap[g1]? = some (.cells (List.toArray (dsL m dg z (.slice A n c))) 37 (0, 0))) (by kernel_rfl) ?_
 change wpAnyH _ _ _ _ _ _ _ _ (World.drew _)
 refine tkp 1 (hFd.blk (i := 4) rfl) ?_
 (try simp only [zP, zQ, zS, zZ, zN])
 refine tky 2 (y := yi_fldA (by with_unfolding_all rfl) (fun _ h => h) uq24 rfl (by with_unfolding_all exact ⟨_, rfl, rfl⟩) (ds := (dg.map bv)) (by rw [List.length_map, hd.out]; kernel_rfl) (by rw [List.length_map, hd.out]; exact dsL_dig hd.out)) (s := (hFd.blk (i := 4) rfl)) (h := ?_)
 (try simp only [zP, zQ, zS, zZ, zN])
 refine wpAnyH_ready (rs := [0, 3]) (by kernel_rfl) (by simp) ?_
 refine AllReadyH.cons (by simp only [List.getElem?_toArray, List.getElem?_cons_zero]; rfl) (fun K hK => ?_) ?_
 ·refine stp (by with_unfolding_all rfl) (wp_fldA hFd (i := 2) rfl uq51 rfl (by with_unfolding_all exact ⟨_, rfl, rfl⟩) (ds := (vlL 6 0 ⟨#[]⟩ (.slice A5 (0 + 1) c5) (.slice B5 (0 + 1) d5))) (by rw [vlL_len]; kernel_rfl) (take_all _) ?_)
  refine hK.out _ _ ((hFd.blk (i := 4) rfl)) (fun _ => ?_)
  clear hK K
  (try simp only [zP, zQ, zS, zZ, zN])
  refine rdy1 3 (fun K hK => ?_)
  refine stp (by with_unfolding_all rfl) (wp_call Tryz.func78 rfl (by with_unfolding_all rfl) (by with_unfolding_all rfl) (by with_unfolding_all rfl) (dgTextF_any dg _ hd.out) ?_)
  rintro e w31 ⟨rfl, hb31⟩
  refine ⟨_, rfl, ?_⟩
  have hF31 := hFd.call hb31
  refine hK.out _ _ ((hF31.blk (i := 4) rfl)) (fun _ => ?_)
  clear hK K
  (try simp only [zP, zQ, zS, zZ, zN])
  refine rdy1 4 (fun K hK => ?_)
  refine stp (by with_unfolding_all rfl) (wp_call Tryz.func50 rfl (by with_unfolding_all rfl) (by with_unfolding_all rfl) (by with_unfolding_all rfl) (rtext_any (dgT dg) _) ?_)
  rintro e w32 ⟨rfl, hb32⟩
  refine ⟨_, rfl, ?_⟩
  have hF32 := hF31.call hb32
  refine hK.out _ _ ((hF32.blk (i := 4) rfl)) (fun _ => ?_)
  clear hK K
  (try simp only [zP, zQ, zS, zZ, zN])
  refine rdy1 5 (fun K hK => ?_)
  refine stp (by with_unfolding_all rfl) (wp_call Tryz.func49 rfl (by with_unfolding_all rfl) (by with_unfolding_all rfl) (by with_unfolding_all rfl) (rput_any kDigest (vlL 4 0 ⟨(dgT dg).toArray⟩ (.slice none 0 0) (.slice none 0 0)) hF32 (by omega) (by omega) rfl vlL_one) ?_)
  rintro e w33 ⟨A33, c33, B33, d33, hc33, hd33, rfl, hF33⟩
  refine ⟨_, rfl, ?_⟩
  refine hK.out _ _ ((hF33.blk (i := 4) rfl)) (fun _ => ?_)
  clear hK K
  (try simp only [zP, zQ, zS, zZ, zN])
  refine rdy1 6 (fun K hK => ?_)
  refine stp (by with_unfolding_all rfl) (wp_fstA hF33 (i := 2) rfl (ds := (vlL 6 0 ⟨#[]⟩ (.slice A33 (0 + 1 + 1) c33) (.slice B33 (0 + 1 + 1) d33))) (by with_unfolding_all exact ⟨_, _, rfl, rfl, rfl⟩) (by rw [vlL_len]; kernel_rfl) vlL_one vlL_fit ?_)
  intro w34 hF34 hz34
  (try simp only [zZ, zN] at hF34)
  rw [(vlL_spl (k' := 6) : spl _ 0 (vlL 6 0 ⟨#[]⟩ (.slice A33 (0 + 1 + 1) c33) (.slice B33 (0 + 1 + 1) d33)) = (vlL 6 0 ⟨#[]⟩ (.slice A33 (0 + 1 + 1) c33) (.slice B33 (0 + 1 + 1) d33)))] at hF34
  refine hK.out _ _ ((hF34.blk (i := 4) rfl)) (fun _ => ?_)
  clear hK K
  (try simp only [zP, zQ, zS, zZ, zN])
  refine wpAnyH_done (by kernel_rfl) ?_ _
  go_wp2_with (first | (with_reducible refine lsx (wp_fldA2 hF34 uq51 rfl (by with_unfolding_all exact ⟨_, rfl, rfl⟩) (ds := (vlL 6 0 ⟨#[]⟩ (.slice A33 (0 + 1 + 1) c33) (.slice B33 (0 + 1 + 1) d33))) (by rw [vlL_len]; kernel_rfl) (take_all _) ?_)) | (with_reducible refine lsx (wp_fld4 hF34 uq3 rfl (by with_unfolding_all exact ⟨_, rfl, rfl⟩) (dsL_size hd.out) ?_)) | (with_reducible refine lsx (wp_fbuild uq51 (z := .agg (List.toArray vl0)) (by kernel_rfl) (pl := vlP) (by kernel_rfl) (cs := (vlL 3 z ⟨#[]⟩ (.slice none 0 0) (.slice none 0 0))) rfl (vs := [(0, .int .i64 3), (1, .int .i64 z)]) (by with_unfolding_all rfl) (by with_unfolding_all rfl) ?_)))
  refine (rput_any kSize (vlL 3 z ⟨#[]⟩ (.slice none 0 0) (.slice none 0 0)) hF34 (by omega) (by omega) rfl vlL_one).mono ?_
  rintro e w50 ⟨A50, c50, B50, d50, hc50, hd50, rfl, hF50⟩
  go_wp2_with (first | ((with_reducible refine lsx (wp_fstA2 hF50 (by with_unfolding_all exact ⟨_, _, rfl, rfl, rfl⟩) (by rw [vlL_len]; kernel_rfl) vlL_one vlL_fit vlL_spl ?_)); intro w51 hF51 hz51) | (with_reducible refine lsx (wp_fldA2 hF51 uq51 rfl (by with_unfolding_all exact ⟨_, rfl, rfl⟩) (ds := (vlL 6 0 ⟨#[]⟩ (.slice A50 (0 + 1 + 1 + 1) c50) (.slice B50 (0 + 1 + 1 + 1) d50))) (by rw [vlL_len]; kernel_rfl) (take_all _) ?_)) | (with_reducible refine lsx (wp_fld4 hF51 uq35 rfl (by with_unfolding_all exact ⟨_, rfl, rfl⟩) (dsL_notes hd.out) ?_)))
  refine (rwith_any d.notes A n c hF51 (by omega) (by omega) hc50 hd50 hn.out hbd.out hr.out).mono ?_
  rintro e w52 ⟨A52, c52, B52, d52, zs, E2, hc52, hd52, rfl, hz, hF52⟩
  go_wp2_with (first | ((with_reducible refine lsx (wp_fstA3 hF52 (by with_unfolding_all exact ⟨_, _, rfl, rfl, rfl⟩) (by rw [vlL_len]; kernel_rfl) vlL_one vlL_fit vlL_spl ?_)); intro w53 hF53 hz53))
  exact bodyPost_ret (results_cellF rfl _ hF53 (i := 3) rfl rfl uq51 rfl (by rw [vlL_len]; kernel_rfl)) rfl (by
   unfold TDesc
   have hG := (((hF53.toRd (i := 0) rfl).toRd (i := 1) rfl).sub (es' := .rd A52 1 (0 + 1 + 1 + 1 + (tWith d.notes).length) ((([] ++ [kMedia] ++ [kDigest] ++ [kSize]) ++ (tWith d.notes).map (fun x : List UInt8 × JV => x.1)).map strv) :: .rd B52 5 (0 + 1 + 1 + 1 + (tWith d.notes).length) ((([] ++ (vlL 4 0 ⟨(m).toArray⟩ (.slice none 0 0) (.slice none 0 0)) ++ (vlL 4 0 ⟨(dgT dg).toArray⟩ (.slice none 0 0) (.slice none 0 0))) ++ (vlL 3 z ⟨#[]⟩ (.slice none 0 0) (.slice none 0 0))) ++ zs) :: E2) (List.Sublist.cons_cons _ (List.Sublist.cons_cons _ (List.Sublist.cons _ (List.Sublist.cons _ (List.Sublist.cons _ (List.Sublist.refl _)))))))
   refine ⟨_, _, rfl, ?_, (Fr.lf (es := tLf ++ tLf) (Fr.lf (es := tLf) (Fr.lf (es := []) hG)))⟩
   rw [htd.out]
   exact VT.mk_ (t := []) hc52 hd52 (VTL.app (((VTL.nil.snoc VT.leaf).snoc VT.leaf).snoc VT.leaf) hz))
 refine AllReadyH.cons (by simp only [List.getElem?_toArray, List.getElem?_cons_zero, List.getElem?_cons_succ]; rfl) (fun K hK => ?_) ?_
 ·refine stp (by with_unfolding_all rfl) (wp_call Tryz.func78 rfl (by with_unfolding_all rfl) (by with_unfolding_all rfl) (by with_unfolding_all rfl) (dgTextF_any dg _ hd.out) ?_)
  rintro e w31 ⟨rfl, hb31⟩
  refine ⟨_, rfl, ?_⟩
  have hF31 := hFd.call hb31
  refine hK.out _ _ ((hF31.blk (i := 4) rfl)) (fun _ => ?_)
  clear hK K
  (try simp only [zP, zQ, zS, zZ, zN])
  refine wpAnyH_ready (rs := [0, 4]) (by kernel_rfl) (by simp) ?_
  refine AllReadyH.cons (by simp only [List.getElem?_toArray, List.getElem?_cons_zero]; rfl) (fun K hK => ?_) ?_
  ·refine stp (by with_unfolding_all rfl) (wp_fldA hF31 (i := 2) rfl uq51 rfl (by with_unfolding_all exact ⟨_, rfl, rfl⟩) (ds := (vlL 6 0 ⟨#[]⟩ (.slice A5 (0 + 1) c5) (.slice B5 (0 + 1) d5))) (by rw [vlL_len]; kernel_rfl) (take_all _) ?_)
   refine hK.out _ _ ((hF31.blk (i := 4) rfl)) (fun _ => ?_)
   clear hK K
   (try simp only [zP, zQ, zS, zZ, zN])
   refine rdy1 4 (fun K hK => ?_)
   refine stp (by with_unfolding_all rfl) (wp_call Tryz.func50 rfl (by with_unfolding_all rfl) (by with_unfolding_all rfl) (by with_unfolding_all rfl) (rtext_any (dgT dg) _) ?_)
   rintro e w32 ⟨rfl, hb32⟩
   refine ⟨_, rfl, ?_⟩
   have hF32 := hF31.call hb32
   refine hK.out _ _ ((hF32.blk (i := 4) rfl)) (fun _ => ?_)
   clear hK K
   (try simp only [zP, zQ, zS, zZ, zN])
   refine rdy1 5 (fun K hK => ?_)
   refine stp (by with_unfolding_all rfl) (wp_call Tryz.func49 rfl (by with_unfolding_all rfl) (by with_unfolding_all rfl) (by with_unfolding_all rfl) (rput_any kDigest (vlL 4 0 ⟨(dgT dg).toArray⟩ (.slice none 0 0) (.slice none 0 0)) hF32 (by omega) (by omega) rfl vlL_one) ?_)
   rintro e w33 ⟨A33, c33, B33, d33, hc33, hd33, rfl, hF33⟩
   refine ⟨_, rfl, ?_⟩
   refine hK.out _ _ ((hF33.blk (i := 4) rfl)) (fun _ => ?_)
   clear hK K
   (try simp only [zP, zQ, zS, zZ, zN])
   refine rdy1 6 (fun K hK => ?_)
   refine stp (by with_unfolding_all rfl) (wp_fstA hF33 (i := 2) rfl (ds := (vlL 6 0 ⟨#[]⟩ (.slice A33 (0 + 1 + 1) c33) (.slice B33 (0 + 1 + 1) d33))) (by with_unfolding_all exact ⟨_, _, rfl, rfl, rfl⟩) (by rw [vlL_len]; kernel_rfl) vlL_one vlL_fit ?_)
   intro w34 hF34 hz34
   (try simp only [zZ, zN] at hF34)
   rw [(vlL_spl (k' := 6) : spl _ 0 (vlL 6 0 ⟨#[]⟩ (.slice A33 (0 + 1 + 1) c33) (.slice B33 (0 + 1 + 1) d33)) = (vlL 6 0 ⟨#[]⟩ (.slice A33 (0 + 1 + 1) c33) (.slice B33 (0 + 1 + 1) d33)))] at hF34
   refine hK.out _ _ ((hF34.blk (i := 4) rfl)) (fun _ => ?_)
   clear hK K
   (try simp only [zP, zQ, zS, zZ, zN])
   refine wpAnyH_done (by kernel_rfl) ?_ _
   go_wp2_with (first | (with_reducible refine lsx (wp_fldA2 hF34 uq51 rfl (by with_unfolding_all exact ⟨_, rfl, rfl⟩) (ds := (vlL 6 0 ⟨#[]⟩ (.slice A33 (0 + 1 + 1) c33) (.slice B33 (0 + 1 + 1) d33))) (by rw [vlL_len]; kernel_rfl) (take_all _) ?_)) | (with_reducible refine lsx (wp_fld4 hF34 uq3 rfl (by with_unfolding_all exact ⟨_, rfl, rfl⟩) (dsL_size hd.out) ?_)) | (with_reducible refine lsx (wp_fbuild uq51 (z := .agg (List.toArray vl0)) (by kernel_rfl) (pl := vlP) (by kernel_rfl) (cs := (vlL 3 z ⟨#[]⟩ (.slice none 0 0) (.slice none 0 0))) rfl (vs := [(0, .int .i64 3), (1, .int .i64 z)]) (by with_unfolding_all rfl) (by with_unfolding_all rfl) ?_)))
   refine (rput_any kSize (vlL 3 z ⟨#[]⟩ (.slice none 0 0) (.slice none 0 0)) hF34 (by omega) (by omega) rfl vlL_one).mono ?_
   rintro e w50 ⟨A50, c50, B50, d50, hc50, hd50, rfl, hF50⟩
   go_wp2_with (first | ((with_reducible refine lsx (wp_fstA2 hF50 (by with_unfolding_all exact ⟨_, _, rfl, rfl, rfl⟩) (by rw [vlL_len]; kernel_rfl) vlL_one vlL_fit vlL_spl ?_)); intro w51 hF51 hz51) | (with_reducible refine lsx (wp_fldA2 hF51 uq51 rfl (by with_unfolding_all exact ⟨_, rfl, rfl⟩) (ds := (vlL 6 0 ⟨#[]⟩ (.slice A50 (0 + 1 + 1 + 1) c50) (.slice B50 (0 + 1 + 1 + 1) d50))) (by rw [vlL_len]; kernel_rfl) (take_all _) ?_)) | (with_reducible refine lsx (wp_fld4 hF51 uq35 rfl (by with_unfolding_all exact ⟨_, rfl, rfl⟩) (dsL_notes hd.out) ?_)))
   refine (rwith_any d.notes A n c hF51 (by omega) (by omega) hc50 hd50 hn.out hbd.out hr.out).mono ?_
   rintro e w52 ⟨A52, c52, B52, d52, zs, E2, hc52, hd52, rfl, hz, hF52⟩
   go_wp2_with (first | ((with_reducible refine lsx (wp_fstA3 hF52 (by with_unfolding_all exact ⟨_, _, rfl, rfl, rfl⟩) (by rw [vlL_len]; kernel_rfl) vlL_one vlL_fit vlL_spl ?_)); intro w53 hF53 hz53))
   exact bodyPost_ret (results_cellF rfl _ hF53 (i := 3) rfl rfl uq51 rfl (by rw [vlL_len]; kernel_rfl)) rfl (by
    unfold TDesc
    have hG := (((hF53.toRd (i := 0) rfl).toRd (i := 1) rfl).sub (es' := .rd A52 1 (0 + 1 + 1 + 1 + (tWith d.notes).length) ((([] ++ [kMedia] ++ [kDigest] ++ [kSize]) ++ (tWith d.notes).map (fun x : List UInt8 × JV => x.1)).map strv) :: .rd B52 5 (0 + 1 + 1 + 1 + (tWith d.notes).length) ((([] ++ (vlL 4 0 ⟨(m).toArray⟩ (.slice none 0 0) (.slice none 0 0)) ++ (vlL 4 0 ⟨(dgT dg).toArray⟩ (.slice none 0 0) (.slice none 0 0))) ++ (vlL 3 z ⟨#[]⟩ (.slice none 0 0) (.slice none 0 0))) ++ zs) :: E2) (List.Sublist.cons_cons _ (List.Sublist.cons_cons _ (List.Sublist.cons _ (List.Sublist.cons _ (List.Sublist.cons _ (List.Sublist.refl _)))))))
    refine ⟨_, _, rfl, ?_, (Fr.lf (es := tLf ++ tLf) (Fr.lf (es := tLf) (Fr.lf (es := []) hG)))⟩
    rw [htd.out]
    exact VT.mk_ (t := []) hc52 hd52 (VTL.app (((VTL.nil.snoc VT.leaf).snoc VT.leaf).snoc VT.leaf) hz))
  refine AllReadyH.cons (by simp only [List.getElem?_toArray, List.getElem?_cons_zero, List.getElem?_cons_succ]; rfl) (fun K hK => ?_) ?_
  ·refine stp (by with_unfolding_all rfl) (wp_call Tryz.func50 rfl (by with_unfolding_all rfl) (by with_unfolding_all rfl) (by with_unfolding_all rfl) (rtext_any (dgT dg) _) ?_)
   rintro e w32 ⟨rfl, hb32⟩
   refine ⟨_, rfl, ?_⟩
   have hF32 := hF31.call hb32
   refine hK.out _ _ ((hF32.blk (i := 4) rfl)) (fun _ => ?_)
   clear hK K
   (try simp only [zP, zQ, zS, zZ, zN])
   refine rdy1 0 (fun K hK => ?_)
   refine stp (by with_unfolding_all rfl) (wp_fldA hF32 (i := 2) rfl uq51 rfl (by with_unfolding_all exact ⟨_, rfl, rfl⟩) (ds := (vlL 6 0 ⟨#[]⟩ (.slice A5 (0 + 1) c5) (.slice B5 (0 + 1) d5))) (by rw [vlL_len]; kernel_rfl) (take_all _) ?_)
   refine hK.out _ _ ((hF32.blk (i := 4) rfl)) (fun _ => ?_)
   clear hK K
   (try simp only [zP, zQ, zS, zZ, zN])
   refine rdy1 5 (fun K hK => ?_)
   refine stp (by with_unfolding_all rfl) (wp_call Tryz.func49 rfl (by with_unfolding_all rfl) (by with_unfolding_all rfl) (by with_unfolding_all rfl) (rput_any kDigest (vlL 4 0 ⟨(dgT dg).toArray⟩ (.slice none 0 0) (.slice none 0 0)) hF32 (by omega) (by omega) rfl vlL_one) ?_)
   rintro e w33 ⟨A33, c33, B33, d33, hc33, hd33, rfl, hF33⟩
   refine ⟨_, rfl, ?_⟩
   refine hK.out _ _ ((hF33.blk (i := 4) rfl)) (fun _ => ?_)
   clear hK K
   (try simp only [zP, zQ, zS, zZ, zN])
   refine rdy1 6 (fun K hK => ?_)
   refine stp (by with_unfolding_all rfl) (wp_fstA hF33 (i := 2) rfl (ds := (vlL 6 0 ⟨#[]⟩ (.slice A33 (0 + 1 + 1) c33) (.slice B33 (0 + 1 + 1) d33))) (by with_unfolding_all exact ⟨_, _, rfl, rfl, rfl⟩) (by rw [vlL_len]; kernel_rfl) vlL_one vlL_fit ?_)
   intro w34 hF34 hz34
   (try simp only [zZ, zN] at hF34)
   rw [(vlL_spl (k' := 6) : spl _ 0 (vlL 6 0 ⟨#[]⟩ (.slice A33 (0 + 1 + 1) c33) (.slice B33 (0 + 1 + 1) d33)) = (vlL 6 0 ⟨#[]⟩ (.slice A33 (0 + 1 + 1) c33) (.slice B33 (0 + 1 + 1) d33)))] at hF34
   refine hK.out _ _ ((hF34.blk (i := 4) rfl)) (fun _ => ?_)
   clear hK K
   (try simp only [zP, zQ, zS, zZ, zN])
   refine wpAnyH_done (by kernel_rfl) ?_ _
   go_wp2_with (first | (with_reducible refine lsx (wp_fldA2 hF34 uq51 rfl (by with_unfolding_all exact ⟨_, rfl, rfl⟩) (ds := (vlL 6 0 ⟨#[]⟩ (.slice A33 (0 + 1 + 1) c33) (.slice B33 (0 + 1 + 1) d33))) (by rw [vlL_len]; kernel_rfl) (take_all _) ?_)) | (with_reducible refine lsx (wp_fld4 hF34 uq3 rfl (by with_unfolding_all exact ⟨_, rfl, rfl⟩) (dsL_size hd.out) ?_)) | (with_reducible refine lsx (wp_fbuild uq51 (z := .agg (List.toArray vl0)) (by kernel_rfl) (pl := vlP) (by kernel_rfl) (cs := (vlL 3 z ⟨#[]⟩ (.slice none 0 0) (.slice none 0 0))) rfl (vs := [(0, .int .i64 3), (1, .int .i64 z)]) (by with_unfolding_all rfl) (by with_unfolding_all rfl) ?_)))
   refine (rput_any kSize (vlL 3 z ⟨#[]⟩ (.slice none 0 0) (.slice none 0 0)) hF34 (by omega) (by omega) rfl vlL_one).mono ?_
   rintro e w50 ⟨A50, c50, B50, d50, hc50, hd50, rfl, hF50⟩
   go_wp2_with (first | ((with_reducible refine lsx (wp_fstA2 hF50 (by with_unfolding_all exact ⟨_, _, rfl, rfl, rfl⟩) (by rw [vlL_len]; kernel_rfl) vlL_one vlL_fit vlL_spl ?_)); intro w51 hF51 hz51) | (with_reducible refine lsx (wp_fldA2 hF51 uq51 rfl (by with_unfolding_all exact ⟨_, rfl, rfl⟩) (ds := (vlL 6 0 ⟨#[]⟩ (.slice A50 (0 + 1 + 1 + 1) c50) (.slice B50 (0 + 1 + 1 + 1) d50))) (by rw [vlL_len]; kernel_rfl) (take_all _) ?_)) | (with_reducible refine lsx (wp_fld4 hF51 uq35 rfl (by with_unfolding_all exact ⟨_, rfl, rfl⟩) (dsL_notes hd.out) ?_)))
   refine (rwith_any d.notes A n c hF51 (by omega) (by omega) hc50 hd50 hn.out hbd.out hr.out).mono ?_
   rintro e w52 ⟨A52, c52, B52, d52, zs, E2, hc52, hd52, rfl, hz, hF52⟩
   go_wp2_with (first | ((with_reducible refine lsx (wp_fstA3 hF52 (by with_unfolding_all exact ⟨_, _, rfl, rfl, rfl⟩) (by rw [vlL_len]; kernel_rfl) vlL_one vlL_fit vlL_spl ?_)); intro w53 hF53 hz53))
   exact bodyPost_ret (results_cellF rfl _ hF53 (i := 3) rfl rfl uq51 rfl (by rw [vlL_len]; kernel_rfl)) rfl (by
    unfold TDesc
    have hG := (((hF53.toRd (i := 0) rfl).toRd (i := 1) rfl).sub (es' := .rd A52 1 (0 + 1 + 1 + 1 + (tWith d.notes).length) ((([] ++ [kMedia] ++ [kDigest] ++ [kSize]) ++ (tWith d.notes).map (fun x : List UInt8 × JV => x.1)).map strv) :: .rd B52 5 (0 + 1 + 1 + 1 + (tWith d.notes).length) ((([] ++ (vlL 4 0 ⟨(m).toArray⟩ (.slice none 0 0) (.slice none 0 0)) ++ (vlL 4 0 ⟨(dgT dg).toArray⟩ (.slice none 0 0) (.slice none 0 0))) ++ (vlL 3 z ⟨#[]⟩ (.slice none 0 0) (.slice none 0 0))) ++ zs) :: E2) (List.Sublist.cons_cons _ (List.Sublist.cons_cons _ (List.Sublist.cons _ (List.Sublist.cons _ (List.Sublist.cons _ (List.Sublist.refl _)))))))
    refine ⟨_, _, rfl, ?_, (Fr.lf (es := tLf ++ tLf) (Fr.lf (es := tLf) (Fr.lf (es := []) hG)))⟩
    rw [htd.out]
    exact VT.mk_ (t := []) hc52 hd52 (VTL.app (((VTL.nil.snoc VT.leaf).snoc VT.leaf).snoc VT.leaf) hz))
  exact AllReadyH.nil
 exact AllReadyH.nil
end Go.Proofs.YtlhicfpmlncomaaGreatDoor

namespace Go.Proofs.YtlhicfpmlncomaaGreatDoor
open Go.RowKit
def objP : List (Nat × Nat) := [(0, 5)]
def OMore (w0 : World) (es : List Ent) (g : Nat) (num : Int) (t : ByteArray) (nn nk : Nat) (ns : List (List UInt8)) (xs : List Value) (ms : List (List UInt8 × JV)) (e : Ending) (w' : World) : Prop :=
 ∃ A1 c1 A2 c2 zs E2, nn + ms.length ≤ c1 ∧ nk + ms.length ≤ c2 ∧ e = .returned (.tuple #[]) ∧ VTL (ms.map (·.2)) zs E2 ∧
  Fr [] w0 w' (.own w0.heap.size 9 1 (.slice A1 (nn + ms.length) c1) (nn + ms.length) ((ns ++ ms.map (·.1)).map strv) :: .own w0.heap.size 76 5 (.slice A2 (nk + ms.length) c2) (nk + ms.length) (xs ++ zs) :: .blk g 116 (vlL 6 num t (.slice A1 (nn + ms.length) c1) (.slice A2 (nk + ms.length) c2)) :: (es ++ E2))
theorem perm13 {α : Type} (a n k o : α) (r : List α) : (a :: n :: k :: o :: r).Perm (n :: k :: o :: a :: r) := (perm12 a n k (o :: r)).trans (((List.Perm.swap _ _ _).cons _).cons _)
theorem operm {α : Type} (a b p n k o : α) (es te : List α) : (a :: b :: p :: n :: k :: o :: (es ++ te)).Perm (n :: k :: o :: p :: (es ++ (a :: b :: te))) := by
 have e1 : (a :: b :: p :: n :: k :: o :: (es ++ te)) = [a, b] ++ (([p] ++ [n, k, o]) ++ (es ++ te)) := rfl
 have e2 : (n :: k :: o :: p :: (es ++ (a :: b :: te))) = ([n, k, o] ++ [p]) ++ (es ++ ([a, b] ++ te)) := by simp
 rw [e1, e2]
 refine List.Perm.trans (List.perm_append_comm_assoc _ _ _) ?_
 exact List.Perm.append List.perm_append_comm (List.perm_append_comm_assoc _ _ _)
set_option maxRecDepth 20000 in
set_option maxHeartbeats 12800000 in
theorem onotes_any {w0 w : World} {es : List Ent} {g : Nat} {num : Int} {t : ByteArray} {An Ak : Option Addr} {nn cn nk ck : Nat} {ns : List (List UInt8)} {xs : List Value} (l : List MNote) (Al : Option Addr) (nl cl : Nat)
  (hF : Fr [] w0 w (.own w0.heap.size 9 1 (.slice An nn cn) nn (ns.map strv) :: .own w0.heap.size 76 5 (.slice Ak nk ck) nk xs :: .blk g 116 (vlL 6 num t (.slice An nn cn) (.slice Ak nk ck)) :: es)) (hnn : nn ≤ 1000) (hnk : nk ≤ 1000) (hcn : nn ≤ cn) (hck : nk ≤ ck) (hl : nl = l.length) (hll : nl ≤ 1000000) (hr : Rd w0 (· < w0.heap.size) Al 2 nl (ntsL l)) :
  Calls Tryz.prog 60 #[.pointer (some ⟨g, 0, none⟩), .slice Al nl cl] w (OMore w0 es g num t nn nk ns xs (tWith l)) := by
 by_cases hl0 : l = []
 ·subst hl0
  obtain rfl : nl = 0 := hl
  go_enter Tryz.func60, Tryz.ntmps60
  go_wp2_with fail
  ((try simp only [Exit.inBlock, Exit.then]); refine bodyPost_ret (results_none rfl _ _ _) rfl ?_)
  unfold OMore
  exact ⟨An, cn, Ak, ck, [], [], hcn, hck, rfl, VTL.nil, by simpa [tWith_nil] using hF⟩
 ·have hlp : 0 < l.length := List.length_pos_iff.2 hl0
  have hq : ((nl : Int) == 0) = false := by rw [beq_eq_false_iff_ne]; omega
  have hw := tWith_some hl0
  replace hl := box hl
  replace hl0 := box hl0
  replace hw := box hw
  clear hlp
  go_enter Tryz.func60, Tryz.ntmps60
  go_wp2_with (first | (with_reducible refine lsx (wp_fbuild uq76 (z := .agg (List.toArray vl0)) (by kernel_rfl) (pl := vlP) (by kernel_rfl) (cs := (vlL 6 0 ⟨#[]⟩ (.slice none 0 0) (.slice none 0 0))) rfl (vs := [(0, .int .i64 6)]) (by with_unfolding_all rfl) (by with_unfolding_all rfl) ?_)) | (with_reducible refine lsx (wp_fbuild uq116 (z := .agg (List.toArray vl0)) (by kernel_rfl) (pl := objP) (by kernel_rfl) (cs := (vlL 6 0 ⟨#[]⟩ (.slice none 0 0) (.slice none 0 0))) rfl (vs := [(0, .agg (vlL 6 0 ⟨#[]⟩ (.slice none 0 0) (.slice none 0 0)).toArray)]) (by with_unfolding_all rfl) (by with_unfolding_all rfl) ?_)) | ((with_reducible refine lsx (wp_falloc hF (cs := vl0) (z := .agg (List.toArray (vl0))) rfl (by kernel_rfl) (by with_unfolding_all rfl) ?_)); intro w3 g3 hF3 hz3) | ((with_reducible refine lsx (wp_fstA0 hF3 (by with_unfolding_all exact ⟨_, _, rfl, rfl, rfl⟩) (by rw [vlL_len]; kernel_rfl) vlL_one vlL_fit vlL_spl ?_)); intro w4 hF4 hz4))
  have hF5 := (hF4.none_ w0.heap.size 76 5).none_ w0.heap.size 9 1
  clear hF3 hF4
  go_loopg [14] nl (fun gg iv wr => ∃ (i : Nat) (A : Option Addr) (c : Nat) (B : Option Addr) (d : Nat) (ys : List Value) (TE : List Ent), i ≤ nl ∧ Box (gg = nl - i) ∧ iv = .int .i64 (i : Int) ∧ i ≤ c ∧ i ≤ d ∧ Box (VTL ((tMem (l.take i)).map (·.2)) ys TE) ∧ Fr [] w0 wr (.own w0.heap.size 9 1 (.slice A i c) i (((tMem (l.take i)).map (·.1)).map strv) :: .own w0.heap.size 76 5 (.slice B i d) i ys :: .blk g3 116 (vlL 6 0 ⟨#[]⟩ (.slice A i c) (.slice B i d)) :: .own w0.heap.size 9 1 (.slice An nn cn) nn (ns.map strv) :: .own w0.heap.size 76 5 (.slice Ak nk ck) nk xs :: .blk g 116 (vlL 6 num t (.slice An nn cn) (.slice Ak nk ck)) :: (es ++ TE)))
  case atStart => exact ⟨0, none, 0, none, 0, [], [], by omega, box rfl, rfl, Nat.le_refl _, Nat.le_refl _, box VTL.nil, by simpa [tMem] using hF5⟩
  case round =>
   clear hF5 hF
   obtain ⟨i, A, c, B, d, ys, TE, hi, hgi, rfl, hic, hid, hT, hF⟩ := hrel
   have hkk : Box (_ = nl - i) := hgi
   clear hgi
   by_cases hlt : i < nl
   ·obtain ⟨x, hx'⟩ : ∃ x, l[i]? = some x := ⟨l[i]'(by rw [← hl.out]; exact hlt), by simp⟩
    have hx := box hx'
    have hxa := box (ntsL_at hx')
    have hrl := hr.below hF.below
    clear hx'
    go_wp2_with (first | (with_reducible refine lsx (wp_indexAddr T_notes hrl (by with_unfolding_all exact ⟨_, _, _, _, rfl, rfl, rfl⟩) (by omega) (by omega) ?_)) | (with_reducible refine lsx (wp_loadA hrl uq70 rfl (by with_unfolding_all exact ⟨_, rfl, rfl⟩) (ds := (ntL x)) (by kernel_rfl) (by with_unfolding_all exact hxa.out) ?_)) | ((with_reducible refine lsx (wp_falloc hF (cs := [.string ⟨#[]⟩, .string ⟨#[]⟩]) (z := .agg (List.toArray ([.string ⟨#[]⟩, .string ⟨#[]⟩]))) rfl (by kernel_rfl) (by with_unfolding_all rfl) ?_)); intro w6 g6 hF6 hz6) | ((with_reducible refine lsx (wp_fstA0 hF6 (by with_unfolding_all exact ⟨_, _, rfl, rfl, rfl⟩) (by kernel_rfl) (ntL_one _) (Nat.le_refl 2) (spl_all rfl : spl [.string ⟨#[]⟩, .string ⟨#[]⟩] 0 (ntL x) = ntL x) ?_)); intro w7 hF7 hz7) | (with_reducible refine lsx (wp_fld0 hF7 uq9 rfl (by with_unfolding_all exact ⟨_, rfl, rfl⟩) rfl ?_)))
    have hF8 := hF7.perm (perm13 _ _ _ _ _)
    refine (otext_any x.key x.val hF8 (by omega) (by omega)).mono ?_
    rintro e w9 ⟨A9, c9, B9, d9, hc9, hd9, rfl, hF9⟩
    clear hF6 hF7 hF8
    go_wp2_with fail
    go_roundg (nl - (i + 1))
    case rel => exact ⟨i + 1, A9, c9, B9, d9, ys ++ (vlL 4 0 ⟨x.val.toArray⟩ (.slice none 0 0) (.slice none 0 0)), TE ++ [.rd none 1 0 [], .rd none 5 0 []], by omega, box rfl, by go_num, hc9, hd9, box (by rw [tMem_snoc hx.out, List.map_append]; exact hT.out.snoc VT.leaf), (((hF9.sub (List.Sublist.cons_cons _ (List.Sublist.cons_cons _ (List.Sublist.cons_cons _ (List.Sublist.cons _ (List.Sublist.refl _)))))).pushNone 5).pushNone 1).perm (by rw [tMem_snoc hx.out, List.map_append]; refine (List.perm_append_comm (l₁ := [Ent.rd none 1 0 [], Ent.rd none 5 0 []])).trans (by simp))⟩
    case measure => have := hkk.out; omega
   ·obtain rfl : nl = i := by omega
    have htk : l.take nl = l := by rw [hl.out]; exact List.take_length
    rw [htk] at hT hF
    clear htk
    have hG := ((hF.toRd (i := 0) rfl).toRd (i := 1) rfl).perm (es' := .own w0.heap.size 9 1 (.slice An nn cn) nn (ns.map strv) :: .own w0.heap.size 76 5 (.slice Ak nk ck) nk xs :: .blk g 116 (vlL 6 num t (.slice An nn cn) (.slice Ak nk ck)) :: .blk g3 116 (vlL 6 0 ⟨#[]⟩ (.slice A nl c) (.slice B nl d)) :: (es ++ (.rd A 1 nl (((tMem l).map (·.1)).map strv) :: .rd B 5 nl ys :: TE))) (by
     simp only [zZ, zN]
     exact operm _ _ _ _ _ _ _ _)
    have hVN : VT (tNotes l) (vlL 6 0 ⟨#[]⟩ (.slice A nl c) (.slice B nl d)) (.rd A 1 nl (((tMem l).map (·.1)).map strv) :: .rd B 5 nl ys :: TE) := by
     rw [tNotes_mem]; exact VT.mk_ hic hid hT.out
    clear hF
    go_wp2_with (first | (with_reducible refine lsx (wp_fldA3 hG uq76 rfl (by with_unfolding_all exact ⟨_, rfl, rfl⟩) (ds := (vlL 6 0 ⟨#[]⟩ (.slice A nl c) (.slice B nl d))) (by rw [vlL_len]; kernel_rfl) (take_all _) ?_)))
    refine (oput_any kNotes _ hG (by omega) (by omega) rfl vlL_one).mono ?_
    rintro e w7 ⟨A7, c7, B7, d7, hc7, hd7, rfl, hF7⟩
    clear hG
    go_wp2_with fail
    go_end0
    unfold OMore
    rw [hw.out]
    exact ⟨A7, c7, B7, d7, _, _, hc7, hd7, rfl, VTL.snoc VTL.nil hVN, hF7.sub (List.Sublist.cons_cons _ (List.Sublist.cons_cons _ (List.Sublist.cons_cons _ (List.Sublist.cons _ (List.Sublist.refl _)))))⟩
set_option maxRecDepth 20000 in
set_option maxHeartbeats 12800000 in
theorem ptold_any (d : MDesc) (cs : List Value) (w : World) (hD : RdD w d cs) (hB : d.notes.length ≤ 1000000) :
  Calls Tryz.prog 59 #[.agg cs.toArray] w (TDesc w (tDesc d)) := by
 obtain ⟨nt, hd', ⟨A, n, c, hnc, hn', rfl, hr'⟩, rfl⟩ := hD
 have htd : Box (tDesc d = .mk 6 0 [] (([] ++ [kMedia] ++ [kDigest] ++ [kSize]) ++ (tWith d.notes).map (·.1)) (([] ++ [jT d.media] ++ [jT (dgT d.dig)] ++ [jN d.size]) ++ (tWith d.notes).map (·.2))) := box (by
  show jO _ = _
  unfold jO
  rw [List.map_append, List.map_append]
  rfl)
 have hbd := box (show n ≤ 1000000 by omega)
 obtain ⟨m, hm⟩ : ∃ m, m = d.media := ⟨_, rfl⟩
 obtain ⟨dg, hdg⟩ : ∃ dg, dg = d.dig := ⟨_, rfl⟩
 obtain ⟨z, hz0⟩ : ∃ z, z = d.size := ⟨_, rfl⟩
 rw [← hm, ← hdg, ← hz0] at htd
 rw [← hm, ← hdg, ← hz0]
 rw [← hdg] at hd'
 clear hm hdg hz0
 have hd := box hd'
 have hr := box hr'
 have hn := box hn'
 have hdl := box (dsL_len (m := m) (z := z) (nt := .slice A n c) hd')
 clear hd' hr' hn' hB
 have hF0 := Fr.nil w
 go_enter Tryz.func59, Tryz.ntmps59
 go_wp2_with (first | ((with_reducible refine lsx (wp_fbox hF0 (cs := (dsL m dg z (.slice A n c))) rfl (by with_unfolding_all rfl) (by with_unfolding_all rfl) ?_)); intro w1 g1 hF1 hz1) | ((with_reducible refine lsx (wp_falloc hF1 (cs := vl0) (z := .agg (List.toArray (vl0))) rfl (by kernel_rfl) (by with_unfolding_all rfl) ?_)); intro w2 g2 hF2 hz2) | (with_reducible refine lsx (wp_fbuild uq76 (z := .agg (List.toArray vl0)) (by kernel_rfl) (pl := vlP) (by kernel_rfl) (cs := (vlL 6 0 ⟨#[]⟩ (.slice none 0 0) (.slice none 0 0))) rfl (vs := [(0, .int .i64 6)]) (by with_unfolding_all rfl) (by with_unfolding_all rfl) ?_)) | (with_reducible refine lsx (wp_fbuild uq116 (z := .agg (List.toArray vl0)) (by kernel_rfl) (pl := objP) (by kernel_rfl) (cs := (vlL 6 0 ⟨#[]⟩ (.slice none 0 0) (.slice none 0 0))) rfl (vs := [(0, .agg (vlL 6 0 ⟨#[]⟩ (.slice none 0 0) (.slice none 0 0)).toArray)]) (by with_unfolding_all rfl) (by with_unfolding_all rfl) ?_)) | ((with_reducible refine lsx (wp_falloc hF2 (cs := vl0) (z := .agg (List.toArray (vl0))) rfl (by kernel_rfl) (by with_unfolding_all rfl) ?_)); intro w3 g3 hF3 hz3) | ((with_reducible refine lsx (wp_fstA0 hF3 (by with_unfolding_all exact ⟨_, _, rfl, rfl, rfl⟩) (by rw [vlL_len]; kernel_rfl) vlL_one vlL_fit vlL_spl ?_)); intro w4 hF4 hz4) | (with_reducible refine lsx (wp_fld2 hF4 uq9 rfl (by with_unfolding_all exact ⟨_, rfl, rfl⟩) dsL_m0 ?_)))
 have hG4 := (hF4.none_ w.heap.size 76 5).none_ w.heap.size 9 1
 clear hF0 hF1 hF2 hF3 hF4
 refine (otext_any (ns := []) kMedia m hG4 (by omega) (by omega)).mono ?_
 rintro e w5 ⟨A5, c5, B5, d5, hc5, hd5, rfl, hF5⟩
 clear hG4
 go_wp2_with (first | (with_reducible refine lsx (wp_fldA4 hF5 uq25 rfl (by with_unfolding_all exact ⟨_, rfl, rfl⟩) (ds := (dg.map bv)) (by rw [List.length_map, hd.out]; kernel_rfl) (by rw [List.length_map, hd.out]; exact dsL_dig hd.out) ?_)))
 refine (dgText_any dg _ hd.out).mono ?_
 rintro e w6 ⟨rfl, hb6⟩
 have hF6 := hF5.call hb6
 clear hF5
 go_wp2_with fail
 refine (otext_any kDigest (dgT dg) hF6 (by omega) (by omega)).mono ?_
 rintro e w7 ⟨A7, c7, B7, d7, hc7, hd7, rfl, hF7⟩
 clear hF6
 go_wp2_with (first | (with_reducible refine lsx (wp_fld4 hF7 uq3 rfl (by with_unfolding_all exact ⟨_, rfl, rfl⟩) (dsL_size hd.out) ?_)) | (with_reducible refine lsx (wp_fbuild uq76 (z := .agg (List.toArray vl0)) (by kernel_rfl) (pl := vlP) (by kernel_rfl) (cs := (vlL 3 z ⟨#[]⟩ (.slice none 0 0) (.slice none 0 0))) rfl (vs := [(0, .int .i64 3), (1, .int .i64 z)]) (by with_unfolding_all rfl) (by with_unfolding_all rfl) ?_)))
 refine (oput_any kSize (vlL 3 z ⟨#[]⟩ (.slice none 0 0) (.slice none 0 0)) hF7 (by omega) (by omega) rfl vlL_one).mono ?_
 rintro e w50 ⟨A50, c50, B50, d50, hc50, hd50, rfl, hF50⟩
 clear hF7
 go_wp2_with (first | (with_reducible refine lsx (wp_fld4 hF50 uq26 rfl (by with_unfolding_all exact ⟨_, rfl, rfl⟩) (dsL_notes hd.out) ?_)))
 refine (onotes_any d.notes A n c hF50 (by omega) (by omega) hc50 hd50 hn.out hbd.out hr.out).mono ?_
 rintro e w52 ⟨A52, c52, B52, d52, zs, E2, hc52, hd52, rfl, hz, hF52⟩
 clear hF50
 go_wp2_with (first | (with_reducible refine lsx (wp_fldA2 hF52 uq76 rfl (by with_unfolding_all exact ⟨_, rfl, rfl⟩) (ds := (vlL 6 0 ⟨#[]⟩ (.slice A52 (0 + 1 + 1 + 1 + (tWith d.notes).length) c52) (.slice B52 (0 + 1 + 1 + 1 + (tWith d.notes).length) d52))) (by rw [vlL_len]; kernel_rfl) (take_all _) ?_)) | ((with_reducible refine lsx (wp_fstA3 hF52 (by with_unfolding_all exact ⟨_, _, rfl, rfl, rfl⟩) (by rw [vlL_len]; kernel_rfl) vlL_one vlL_fit vlL_spl ?_)); intro w53 hF53 hz53))
 exact bodyPost_ret (results_cellF rfl _ hF53 (i := 3) rfl rfl uq76 rfl (by rw [vlL_len]; kernel_rfl)) rfl (by
  unfold TDesc
  have hG := (((hF53.toRd (i := 0) rfl).toRd (i := 1) rfl).sub (es' := .rd A52 1 (0 + 1 + 1 + 1 + (tWith d.notes).length) ((([] ++ [kMedia] ++ [kDigest] ++ [kSize]) ++ (tWith d.notes).map (fun x : List UInt8 × JV => x.1)).map strv) :: .rd B52 5 (0 + 1 + 1 + 1 + (tWith d.notes).length) ((([] ++ (vlL 4 0 ⟨(m).toArray⟩ (.slice none 0 0) (.slice none 0 0)) ++ (vlL 4 0 ⟨(dgT dg).toArray⟩ (.slice none 0 0) (.slice none 0 0))) ++ (vlL 3 z ⟨#[]⟩ (.slice none 0 0) (.slice none 0 0))) ++ zs) :: E2) (List.Sublist.cons_cons _ (List.Sublist.cons_cons _ (List.Sublist.cons _ (List.Sublist.cons _ (List.Sublist.cons _ (List.Sublist.refl _)))))))
  refine ⟨_, _, rfl, ?_, (Fr.lf (es := tLf ++ tLf) (Fr.lf (es := tLf) (Fr.lf (es := []) hG)))⟩
  rw [htd.out]
  exact VT.mk_ (t := []) hc52 hd52 (VTL.app (((VTL.nil.snoc VT.leaf).snoc VT.leaf).snoc VT.leaf) hz))
end Go.Proofs.YtlhicfpmlncomaaGreatDoor

namespace Go.Proofs.YtlhicfpmlncomaaGreatDoor
open Go.RowKit Go.Lib
def szv (n : Int) (xs : List UInt8) : Int := xs.foldl (fun n x => n * 64 + (x.toNat : Int) - 128) n
theorem szv_snoc (n : Int) (xs : List UInt8) (x : UInt8) : szv n (xs ++ [x]) = szv n xs * 64 + (x.toNat : Int) - 128 := by unfold szv; rw [List.foldl_append]; rfl
theorem jSize1 {c : UInt8} {t : List UInt8} (h : c.toNat < 128) : jSize (c :: t) = 1 := by rw [jSize.eq_def]; simp only []; rw [if_pos h]
theorem jSize0 {c : UInt8} {t : List UInt8} (h : 128 ≤ c.toNat ∧ c.toNat < 194 ∨ 245 ≤ c.toNat) : jSize (c :: t) = 0 := by
 rw [jSize.eq_def]
 simp only []
 rw [if_neg (by omega)]
 by_cases h1 : c.toNat < 194
 ·rw [if_pos h1]
 ·rw [if_neg h1, if_neg (by omega), if_neg (by omega), if_neg (by omega)]
theorem cont_eq (x : UInt8) : jCont x = true ↔ 128 ≤ x.toNat ∧ x.toNat ≤ 191 := by unfold jCont; rw [Bool.and_eq_true, decide_eq_true_eq, decide_eq_true_eq]
def szOk (k : Nat) (base : Nat) (c : UInt8) (xs : List UInt8) : Prop :=
 xs.all jCont = true ∧ (k = 3 → ¬ (szv ((c.toNat : Int) - base) xs < 2048 ∨ 55296 ≤ szv ((c.toNat : Int) - base) xs ∧ szv ((c.toNat : Int) - base) xs < 57344)) ∧ (k = 4 → ¬ (szv ((c.toNat : Int) - base) xs < 65536 ∨ 1114111 < szv ((c.toNat : Int) - base) xs))
instance (k base : Nat) (c : UInt8) (xs : List UInt8) : Decidable (szOk k base c xs) := by unfold szOk; exact inferInstance
theorem jSize_k {c : UInt8} {t : List UInt8} {k base : Nat} (h : k = 2 ∧ base = 192 ∧ 194 ≤ c.toNat ∧ c.toNat < 224 ∨ k = 3 ∧ base = 224 ∧ 224 ≤ c.toNat ∧ c.toNat < 240 ∨ k = 4 ∧ base = 240 ∧ 240 ≤ c.toNat ∧ c.toNat < 245) :
  jSize (c :: t) = if k ≤ t.length + 1 ∧ szOk k base c (t.take (k - 1)) then k else 0 := by
 rw [jSize.eq_def]
 simp only []
 rw [if_neg (by omega), if_neg (by omega)]
 rcases h with ⟨rfl, rfl, h1, h2⟩ | ⟨rfl, rfl, h1, h2⟩ | ⟨rfl, rfl, h1, h2⟩
 ·rw [if_pos h2]
  match t with
  | [] => simp
  | x :: t => simp [szOk]
 ·rw [if_neg (by omega), if_pos h2]
  match t with
  | [] => simp
  | [x] => simp
  | x :: y :: t =>
   simp only [List.length_cons, szOk, szv, List.take_succ_cons, List.take_zero, List.all_cons, List.all_nil, Bool.and_true, Bool.and_eq_true, List.foldl_cons, List.foldl_nil]
   by_cases hx : jCont x = true
   ·by_cases hy : jCont y = true
    ·have h3 := (cont_eq x).1 hx
     have h4 := (cont_eq y).1 hy
     congr 1
     simp only [hx, hy, true_and, eq_iff_iff]
     constructor
     ·intro h; refine ⟨by omega, fun _ => by omega, fun h => by omega⟩
     ·intro h; have := h.2.1 trivial; omega
    ·simp [hy]
   ·simp [hx]
 ·rw [if_neg (by omega), if_neg (by omega), if_pos h2]
  match t with
  | [] => simp
  | [x] => simp
  | [x, y] => simp
  | x :: y :: z :: t =>
   simp only [List.length_cons, szOk, szv, List.take_succ_cons, List.take_zero, List.all_cons, List.all_nil, Bool.and_true, Bool.and_eq_true, List.foldl_cons, List.foldl_nil]
   by_cases hx : jCont x = true
   ·by_cases hy : jCont y = true
    ·by_cases hz : jCont z = true
     ·have h3 := (cont_eq x).1 hx
      have h4 := (cont_eq y).1 hy
      have h5 := (cont_eq z).1 hz
      congr 1
      simp only [hx, hy, hz, true_and, eq_iff_iff]
      constructor
      ·intro h; refine ⟨by omega, fun h => by omega, fun _ => by omega⟩
      ·intro h; have := h.2.2 trivial; omega
     ·simp [hz]
    ·simp [hy]
   ·simp [hx]
end Go.Proofs.YtlhicfpmlncomaaGreatDoor

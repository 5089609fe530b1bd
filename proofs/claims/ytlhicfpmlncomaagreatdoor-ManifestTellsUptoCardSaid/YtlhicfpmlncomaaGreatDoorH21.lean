/-
 Layer 6: the document's Bare, walked.
 Layer 8: the law ManifestTells, walked.
 Layer 8: what the rows' listed variables hold, in the walks' words; a world that holds it.
-/
import Derived.Test.YtlhicfpmlncomaaGreatDoorH20
import Derived.Test.YtlhicfpmlncomaaGreatDoorH02
import Derived.Test.YtlhicfpmlncomaaGreatDoorH16
import Derived.Test.YtlhicfpmlncomaaGreatDoorH14
import Derived.Test.YtlhicfpmlncomaaGreatDoorH15
import Derived.Test.YtlhicfpmlncomaaGreatDoorH19
import Derived.Test.YtlhicfpmlncomaaGreatDoorH17
import Derived.Test.YtlhicfpmlncomaaGreatDoorH11
import Derived.Test.YtlhicfpmlncomaaGreatDoorRows
import Derived.Lib.LaidU8T
import Derived.Stop.LaidErr
import Derived.Lib.LaidTab
import Derived.MakeChecks
import Derived.LaidLaws
import Derived.LaidHandle
import Derived.LaidMore
import Derived.Lay
import Derived.Shelf.Vars
namespace Go.Proofs.YtlhicfpmlncomaaGreatDoor
open Go.RowKit
set_option linter.unusedSimpArgs false
theorem vlL_1 {k n n' : Int} {t : ByteArray} {a b : Value} : spl (vlL k n t a b) 1 [.int .i64 n'] = vlL k n' t a b := rfl
theorem vlL_2 {k n : Int} {t t' : ByteArray} {a b : Value} : spl (vlL k n t a b) 2 [.string t'] = vlL k n t' a b := rfl
set_option maxRecDepth 20000 in
set_option maxHeartbeats 12800000 in
theorem rbare_any (N : Nat) : ∀ (v : JV) (cs : List Value) (w : World), SizeOf.sizeOf v ≤ N → VRd w (· < w.heap.size) v cs → JSm v →
  Calls Tryz.prog 19 #[.agg cs.toArray] w fun e w' => ∃ cs' es', e = .returned (.agg cs'.toArray) ∧ VT (jBare v) cs' es' ∧ Fr [] w w' es' := by
 induction N with
 | zero => intro v _ _ h; cases v; simp only [JV.mk.sizeOf_spec] at h; omega
 | succ N ih =>
  intro v cs w hN hv hsm
  obtain ⟨k, n, t, ns, ks⟩ := v
  rw [VRd] at hv
  obtain ⟨An, nn, cn, Ak, nk, ck, xk, hcn, hck, rfl, hrn, hrk, hvk⟩ := hv
  rw [JSm] at hsm
  obtain ⟨hs1, hs2, hs3⟩ := hsm
  have hnn : ns.length = nn := by have := hrn.len; simpa using this
  have hnk : ks.length = nk := by have := hrk.len; rw [hvk.len] at this; omega
  rw [hnn] at hs1
  rw [hnk] at hs2
  replace hnn := box hnn
  replace hnk := box hnk
  replace hvk := box hvk
  have hF0 := Fr.nil w
  by_cases hk3 : k = 3
  ·subst hk3
   have hjb : Box (jBare (.mk 3 n t ns ks) = .mk 3 n [] [] []) := box (by rw [jBare]; rfl)
   go_enter Tryz.func19, Tryz.ntmps19
   go_wp2_with (first | ((with_reducible refine lst (by with_unfolding_all rfl) (wp_fbox hF0 (cs := (vlL 3 n ⟨t.toArray⟩ (.slice An nn cn) (.slice Ak nk ck))) rfl (by with_unfolding_all rfl) (by with_unfolding_all rfl) ?_)); intro w1 g1 hF1 hz1) | ((with_reducible refine lst (by with_unfolding_all rfl) (wp_falloc hF1 (cs := vl0) (z := .agg (List.toArray (vl0))) rfl (by kernel_rfl) (by with_unfolding_all rfl) ?_)); intro w2 g2 hF2 hz2) | (with_reducible refine lst (by with_unfolding_all rfl) (wp_fld1 hF2 Tryz.underlying3 rfl (by with_unfolding_all exact ⟨_, rfl, rfl⟩) rfl ?_)) | (with_reducible refine lst (by with_unfolding_all rfl) (wp_fbuild Tryz.underlying51 (z := .agg (List.toArray vl0)) (by kernel_rfl) (pl := vlP) (by kernel_rfl) (cs := (vlL 3 0 ⟨#[]⟩ (.slice none 0 0) (.slice none 0 0))) rfl (vs := [(0, .int .i64 (3))]) (by with_unfolding_all rfl) (by with_unfolding_all rfl) ?_)) | ((with_reducible refine lst (by with_unfolding_all rfl) (wp_falloc hF2 (cs := vl0) (z := .agg (List.toArray (vl0))) rfl (by kernel_rfl) (by with_unfolding_all rfl) ?_)); intro w3 g3 hF3 hz3) | ((with_reducible refine lst (by with_unfolding_all rfl) (wp_fstA0 hF3 (by with_unfolding_all exact ⟨_, _, rfl, rfl, rfl⟩) (by rw [vlL_len]; kernel_rfl) vlL_one vlL_fit vlL_spl ?_)); intro w4 hF4 hz4) | (with_reducible refine lst (by with_unfolding_all rfl) (wp_fld2 hF4 Tryz.underlying3 rfl (by with_unfolding_all exact ⟨_, rfl, rfl⟩) rfl ?_)) | (with_reducible refine lst (by with_unfolding_all rfl) (wp_fld2 hF4 Tryz.underlying3 rfl (by with_unfolding_all exact ⟨_, rfl, rfl⟩) rfl ?_)) | ((with_reducible refine lst (by with_unfolding_all rfl) (wp_fst0 hF4 (by with_unfolding_all exact ⟨_, _, rfl, rfl, rfl⟩) (by kernel_rfl) rfl rfl (by rw [vlL_len]; decide) vlL_1 ?_)); intro w5 hF5 hz5) | (with_reducible refine lst (by with_unfolding_all rfl) (wp_fld2 hF5 Tryz.underlying3 rfl (by with_unfolding_all exact ⟨_, rfl, rfl⟩) rfl ?_)) | (with_reducible refine lst (by with_unfolding_all rfl) (wp_fldA0 hF5 Tryz.underlying51 rfl (by with_unfolding_all exact ⟨_, rfl, rfl⟩) (ds := (vlL 3 n ⟨#[]⟩ (.slice none 0 0) (.slice none 0 0))) (by rw [vlL_len]; kernel_rfl) (take_all _) ?_)) | ((with_reducible refine lst (by with_unfolding_all rfl) (wp_fstA1 hF5 (by with_unfolding_all exact ⟨_, _, rfl, rfl, rfl⟩) (by rw [vlL_len]; kernel_rfl) vlL_one vlL_fit vlL_spl ?_)); intro w6 hF6 hz6))
   exact bodyPost_ret (results_cellF rfl _ hF6 (i := 1) rfl rfl Tryz.underlying51 rfl (by rw [vlL_len]; kernel_rfl)) rfl (by
    rw [hjb.out]
    have h9 := (hF6.tail.tail.tail.pushNone 5).pushNone 1
    first | exact ⟨_, _, rfl, VT.leaf, h9⟩ | exact ⟨_, rfl, _, VT.leaf, h9⟩)
  by_cases hk4 : k = 4
  ·subst hk4
   have hjb : Box (jBare (.mk 4 n t ns ks) = .mk 4 0 t [] []) := box (by rw [jBare]; rfl)
   go_enter Tryz.func19, Tryz.ntmps19
   go_wp2_with (first | ((with_reducible refine lst (by with_unfolding_all rfl) (wp_fbox hF0 (cs := (vlL 4 n ⟨t.toArray⟩ (.slice An nn cn) (.slice Ak nk ck))) rfl (by with_unfolding_all rfl) (by with_unfolding_all rfl) ?_)); intro w1 g1 hF1 hz1) | ((with_reducible refine lst (by with_unfolding_all rfl) (wp_falloc hF1 (cs := vl0) (z := .agg (List.toArray (vl0))) rfl (by kernel_rfl) (by with_unfolding_all rfl) ?_)); intro w2 g2 hF2 hz2) | (with_reducible refine lst (by with_unfolding_all rfl) (wp_fld1 hF2 Tryz.underlying3 rfl (by with_unfolding_all exact ⟨_, rfl, rfl⟩) rfl ?_)) | (with_reducible refine lst (by with_unfolding_all rfl) (wp_fbuild Tryz.underlying51 (z := .agg (List.toArray vl0)) (by kernel_rfl) (pl := vlP) (by kernel_rfl) (cs := (vlL 4 0 ⟨#[]⟩ (.slice none 0 0) (.slice none 0 0))) rfl (vs := [(0, .int .i64 (4))]) (by with_unfolding_all rfl) (by with_unfolding_all rfl) ?_)) | ((with_reducible refine lst (by with_unfolding_all rfl) (wp_falloc hF2 (cs := vl0) (z := .agg (List.toArray (vl0))) rfl (by kernel_rfl) (by with_unfolding_all rfl) ?_)); intro w3 g3 hF3 hz3) | ((with_reducible refine lst (by with_unfolding_all rfl) (wp_fstA0 hF3 (by with_unfolding_all exact ⟨_, _, rfl, rfl, rfl⟩) (by rw [vlL_len]; kernel_rfl) vlL_one vlL_fit vlL_spl ?_)); intro w4 hF4 hz4) | (with_reducible refine lst (by with_unfolding_all rfl) (wp_fld2 hF4 Tryz.underlying3 rfl (by with_unfolding_all exact ⟨_, rfl, rfl⟩) rfl ?_)) | (with_reducible refine lst (by with_unfolding_all rfl) (wp_fld2 hF4 Tryz.underlying3 rfl (by with_unfolding_all exact ⟨_, rfl, rfl⟩) rfl ?_)) | (with_reducible refine lst (by with_unfolding_all rfl) (wp_fld2 hF4 Tryz.underlying9 rfl (by with_unfolding_all exact ⟨_, rfl, rfl⟩) rfl ?_)) | ((with_reducible refine lst (by with_unfolding_all rfl) (wp_fst0 hF4 (by with_unfolding_all exact ⟨_, _, rfl, rfl, rfl⟩) (by kernel_rfl) rfl rfl (by rw [vlL_len]; decide) vlL_2 ?_)); intro w5 hF5 hz5) | (with_reducible refine lst (by with_unfolding_all rfl) (wp_fld2 hF5 Tryz.underlying3 rfl (by with_unfolding_all exact ⟨_, rfl, rfl⟩) rfl ?_)) | (with_reducible refine lst (by with_unfolding_all rfl) (wp_fldA0 hF5 Tryz.underlying51 rfl (by with_unfolding_all exact ⟨_, rfl, rfl⟩) (ds := (vlL 4 0 ⟨t.toArray⟩ (.slice none 0 0) (.slice none 0 0))) (by rw [vlL_len]; kernel_rfl) (take_all _) ?_)) | ((with_reducible refine lst (by with_unfolding_all rfl) (wp_fstA1 hF5 (by with_unfolding_all exact ⟨_, _, rfl, rfl, rfl⟩) (by rw [vlL_len]; kernel_rfl) vlL_one vlL_fit vlL_spl ?_)); intro w6 hF6 hz6))
   exact bodyPost_ret (results_cellF rfl _ hF6 (i := 1) rfl rfl Tryz.underlying51 rfl (by rw [vlL_len]; kernel_rfl)) rfl (by
    rw [hjb.out]
    have h9 := (hF6.tail.tail.tail.pushNone 5).pushNone 1
    first | exact ⟨_, _, rfl, VT.leaf, h9⟩ | exact ⟨_, rfl, _, VT.leaf, h9⟩)
  have d3 : (k == 3) = false := by rw [beq_eq_false_iff_ne]; assumption
  have d4 : (k == 4) = false := by rw [beq_eq_false_iff_ne]; assumption
  by_cases hk5 : 5 ≤ k
  rotate_left
  ·have d5 : decide ((5 : Int) ≤ k) = false := decide_eq_false hk5
   have d6 : (k == 6) = false := by rw [beq_eq_false_iff_ne]; omega
   have hjb : Box (jBare (.mk k n t ns ks) = .mk k 0 [] [] []) := box (by rw [jBare, if_neg hk3, if_neg hk4, if_neg (show ¬ k = 6 by omega), if_neg hk5])
   replace hk3 := box hk3
   replace hk4 := box hk4
   replace hk5 := box hk5
   go_enter Tryz.func19, Tryz.ntmps19
   go_wp2_with (first | ((with_reducible refine lst (by with_unfolding_all rfl) (wp_fbox hF0 (cs := (vlL k n ⟨t.toArray⟩ (.slice An nn cn) (.slice Ak nk ck))) rfl (by with_unfolding_all rfl) (by with_unfolding_all rfl) ?_)); intro w1 g1 hF1 hz1) | ((with_reducible refine lst (by with_unfolding_all rfl) (wp_falloc hF1 (cs := vl0) (z := .agg (List.toArray (vl0))) rfl (by kernel_rfl) (by with_unfolding_all rfl) ?_)); intro w2 g2 hF2 hz2) | (with_reducible refine lst (by with_unfolding_all rfl) (wp_fld1 hF2 Tryz.underlying3 rfl (by with_unfolding_all exact ⟨_, rfl, rfl⟩) rfl ?_)) | (with_reducible refine lst (by with_unfolding_all rfl) (wp_fbuild Tryz.underlying51 (z := .agg (List.toArray vl0)) (by kernel_rfl) (pl := vlP) (by kernel_rfl) (cs := (vlL k 0 ⟨#[]⟩ (.slice none 0 0) (.slice none 0 0))) rfl (vs := [(0, .int .i64 (k))]) (by with_unfolding_all rfl) (by with_unfolding_all rfl) ?_)) | ((with_reducible refine lst (by with_unfolding_all rfl) (wp_falloc hF2 (cs := vl0) (z := .agg (List.toArray (vl0))) rfl (by kernel_rfl) (by with_unfolding_all rfl) ?_)); intro w3 g3 hF3 hz3) | ((with_reducible refine lst (by with_unfolding_all rfl) (wp_fstA0 hF3 (by with_unfolding_all exact ⟨_, _, rfl, rfl, rfl⟩) (by rw [vlL_len]; kernel_rfl) vlL_one vlL_fit vlL_spl ?_)); intro w4 hF4 hz4) | (with_reducible refine lst (by with_unfolding_all rfl) (wp_fld2 hF4 Tryz.underlying3 rfl (by with_unfolding_all exact ⟨_, rfl, rfl⟩) rfl ?_)) | (with_reducible refine lst (by with_unfolding_all rfl) (wp_fldA0 hF4 Tryz.underlying51 rfl (by with_unfolding_all exact ⟨_, rfl, rfl⟩) (ds := (vlL k 0 ⟨#[]⟩ (.slice none 0 0) (.slice none 0 0))) (by rw [vlL_len]; kernel_rfl) (take_all _) ?_)) | ((with_reducible refine lst (by with_unfolding_all rfl) (wp_fstA1 hF4 (by with_unfolding_all exact ⟨_, _, rfl, rfl, rfl⟩) (by rw [vlL_len]; kernel_rfl) vlL_one vlL_fit vlL_spl ?_)); intro w6 hF6 hz6))
   exact bodyPost_ret (results_cellF rfl _ hF6 (i := 1) rfl rfl Tryz.underlying51 rfl (by rw [vlL_len]; kernel_rfl)) rfl (by
    rw [hjb.out]
    have h9 := (hF6.tail.tail.tail.pushNone 5).pushNone 1
    first | exact ⟨_, _, rfl, VT.leaf, h9⟩ | exact ⟨_, rfl, _, VT.leaf, h9⟩)
  have d5 : decide ((5 : Int) ≤ k) = true := decide_eq_true hk5
  replace hk3 := box hk3
  replace hk4 := box hk4
  replace hk5 := box hk5
  go_enter Tryz.func19, Tryz.ntmps19
  go_wp2_with (first | ((with_reducible refine lst (by with_unfolding_all rfl) (wp_fbox hF0 (cs := (vlL k n ⟨t.toArray⟩ (.slice An nn cn) (.slice Ak nk ck))) rfl (by with_unfolding_all rfl) (by with_unfolding_all rfl) ?_)); intro w1 g1 hF1 hz1) | ((with_reducible refine lst (by with_unfolding_all rfl) (wp_falloc hF1 (cs := vl0) (z := .agg (List.toArray (vl0))) rfl (by kernel_rfl) (by with_unfolding_all rfl) ?_)); intro w2 g2 hF2 hz2) | (with_reducible refine lst (by with_unfolding_all rfl) (wp_fld1 hF2 Tryz.underlying3 rfl (by with_unfolding_all exact ⟨_, rfl, rfl⟩) rfl ?_)) | (with_reducible refine lst (by with_unfolding_all rfl) (wp_fbuild Tryz.underlying51 (z := .agg (List.toArray vl0)) (by kernel_rfl) (pl := vlP) (by kernel_rfl) (cs := (vlL k 0 ⟨#[]⟩ (.slice none 0 0) (.slice none 0 0))) rfl (vs := [(0, .int .i64 (k))]) (by with_unfolding_all rfl) (by with_unfolding_all rfl) ?_)) | ((with_reducible refine lst (by with_unfolding_all rfl) (wp_falloc hF2 (cs := vl0) (z := .agg (List.toArray (vl0))) rfl (by kernel_rfl) (by with_unfolding_all rfl) ?_)); intro w3 g3 hF3 hz3) | ((with_reducible refine lst (by with_unfolding_all rfl) (wp_fstA0 hF3 (by with_unfolding_all exact ⟨_, _, rfl, rfl, rfl⟩) (by rw [vlL_len]; kernel_rfl) vlL_one vlL_fit vlL_spl ?_)); intro w4 hF4 hz4) | (with_reducible refine lst (by with_unfolding_all rfl) (wp_fld2 hF4 Tryz.underlying3 rfl (by with_unfolding_all exact ⟨_, rfl, rfl⟩) rfl ?_)))
  have hF5 := ((hF4.none_ w.heap.size 9 1).none_ w.heap.size 51 5).picks [2, 0, 1, 3, 4] (fs := (.blk g3 51 (vlL k 0 ⟨#[]⟩ (.slice none 0 0) (.slice none 0 0)) :: .own w.heap.size 51 5 (.slice none 0 0) 0 [] :: .own w.heap.size 9 1 (.slice none 0 0) 0 ((ns.take 0).map strv) :: .blk g2 51 vl0 :: .blk g1 51 (vlL k n ⟨t.toArray⟩ (.slice An nn cn) (.slice Ak nk ck)) :: [])) rfl (by decide)
  clear hF0 hF1 hF2 hF3 hF4
  go_loopg [4] nk (fun gk s wr => ∃ (i : Nat) (Ai : Option Addr) (ci' : Nat) (xs : List Value) (TE : List Ent), i ≤ nk ∧ Box (gk = nk - i) ∧ s = .int .i64 (i : Int) ∧ i ≤ ci' ∧ Box (VTL ((ks.take i).map jBare) xs TE) ∧ Fr [] w wr (.blk g3 51 (vlL k 0 ⟨#[]⟩ (.slice none 0 0) (.slice Ai i ci')) :: .own w.heap.size 51 5 (.slice Ai i ci') i xs :: .own w.heap.size 9 1 (.slice none 0 0) 0 ((ns.take 0).map strv) :: .blk g2 51 vl0 :: .blk g1 51 (vlL k n ⟨t.toArray⟩ (.slice An nn cn) (.slice Ak nk ck)) :: TE))
  case atStart => exact ⟨0, none, 0, [], [], by omega, box rfl, rfl, by omega, box VTL.nil, hF5⟩
  case round =>
   clear hF5
   obtain ⟨i, Ai, ci', xs, TE, hi, hk, rfl, hci', hT, hF⟩ := hrel
   have hkf : Box (gk = nk - i) := hk
   clear hk
   by_cases hlt : i < nk
   ·obtain ⟨vi, hvi⟩ : ∃ vi, ks[i]? = some vi := ⟨ks[i]'(by rw [hnk.out]; exact hlt), by simp⟩
    obtain ⟨ci, hci, hvri⟩ := hvk.out.at hvi
    have hcil := box hvri.len
    replace hci := box hci
    have hsi := hs3.at hvi
    have hsz : SizeOf.sizeOf vi ≤ N := by have := JV.size_kid (k := k) (n := n) (t := t) (ns := ns) hvi; omega
    have ihc := box (fun w' (hb : Below w.heap.size w w') => ih vi ci w' hsz (hvri.on hb) hsi)
    have hT2 : Box (∀ c e, VT (jBare vi) c e → VTL ((ks.take (i + 1)).map jBare) (xs ++ c) (TE ++ e)) := box (fun c e h => by
     rw [List.take_add_one, hvi, List.map_append]
     exact hT.out.snoc h)
    replace hvi := box hvi
    replace hvri := box hvri
    replace hsi := box hsi
    replace hs3 := box hs3
    replace hsz := box hsz
    replace hN := box hN
    go_upto_region 10 with (first | (with_reducible refine lst (by with_unfolding_all rfl) (wp_fld4 hF Tryz.underlying49 rfl (by with_unfolding_all exact ⟨_, rfl, rfl⟩) rfl ?_)))
    have hFd := hF.drew
    refine wp_region_held (S := fun w' => w'.heap[g1]? = some (.cells (List.toArray (vlL k n ⟨t.toArray⟩ (.slice An nn cn) (.slice Ak nk ck))) 51 (0, 0)) ∧ Rd w' (· < w.heap.size) Ak 5 nk xk) (by kernel_rfl) ?_
    change wpAnyH _ _ _ _ _ _ _ _ (World.drew _)
    refine tkp 0 ⟨hFd.blk (i := 4) rfl, hrk.below hFd.below⟩ ?_
    (try simp only [Act.put, List.setIfInBounds_toArray, List.set_cons_zero, List.set_cons_succ])
    refine tkp 2 ⟨hFd.blk (i := 4) rfl, hrk.below hFd.below⟩ ?_
    (try simp only [Act.put, List.setIfInBounds_toArray, List.set_cons_zero, List.set_cons_succ])
    refine tky 3 (y := yi_fld (by with_unfolding_all rfl) (fun _ h => h.1) Tryz.underlying49 rfl (by with_unfolding_all exact ⟨_, rfl, rfl⟩) rfl) (s := ⟨hFd.blk (i := 4) rfl, hrk.below hFd.below⟩) (h := ?_)
    (try simp only [Act.put, List.setIfInBounds_toArray, List.set_cons_zero, List.set_cons_succ])
    refine tkp 4 ⟨hFd.blk (i := 4) rfl, hrk.below hFd.below⟩ ?_
    (try simp only [Act.put, List.setIfInBounds_toArray, List.set_cons_zero, List.set_cons_succ])
    refine tky 5 (y := yi_ix (by with_unfolding_all rfl) T_rvals (fun h => hrk.some_ h) (k := i) (by with_unfolding_all exact ⟨_, _, _, _, rfl, rfl, rfl⟩) rfl (by omega)) (s := ⟨hFd.blk (i := 4) rfl, hrk.below hFd.below⟩) (h := ?_)
    (try simp only [Act.put, List.setIfInBounds_toArray, List.set_cons_zero, List.set_cons_succ])
    refine tky 6 (y := yi_ldA (by with_unfolding_all rfl) (fun _ h => h.2) Tryz.underlying51 rfl (by with_unfolding_all exact ⟨_, rfl, rfl⟩) (ds := ci) (by rw [hcil.out]; kernel_rfl) (by rw [hcil.out]; exact hci.out)) (s := ⟨hFd.blk (i := 4) rfl, hrk.below hFd.below⟩) (h := ?_)
    (try simp only [Act.put, List.setIfInBounds_toArray, List.set_cons_zero, List.set_cons_succ])
    refine wpAnyH_ready (rs := [1, 7]) (by kernel_rfl) (by simp) ?_
    refine AllReadyH.cons (by simp only [List.getElem?_toArray, List.getElem?_cons_zero, List.getElem?_cons_succ]; rfl) (fun K hK => ?_) ?_
    ·refine stp (by with_unfolding_all rfl) (wp_fld hFd (i := 0) rfl Tryz.underlying49 rfl (by with_unfolding_all exact ⟨_, rfl, rfl⟩) rfl ?_)
     refine hK.out _ _ (⟨hFd.blk (i := 4) rfl, hrk.below hFd.below⟩) (fun _ => ?_)
     clear hK K
     (try simp only [Act.put, List.setIfInBounds_toArray, List.set_cons_zero, List.set_cons_succ])
     refine rdy1 7 (fun K hK => ?_)
     refine stp (by with_unfolding_all rfl) (wp_call Tryz.func19 rfl (by with_unfolding_all rfl) (by with_unfolding_all rfl) (by with_unfolding_all rfl) (ihc.out _ hFd.below) ?_)
     rintro e w31 ⟨cs31, es31, rfl, hvt31, hv31⟩
     refine ⟨_, rfl, ?_⟩
     have hF31 := hFd.joinR hv31
     simp only [List.cons_append] at hF31
     have hTn31 := box (hT2.out _ _ hvt31)
     refine hK.out _ _ (⟨hF31.blk (i := 4) rfl, hrk.below hF31.below⟩) (fun _ => ?_)
     clear hK K
     (try simp only [Act.put, List.setIfInBounds_toArray, List.set_cons_zero, List.set_cons_succ])
     refine rdy1 8 (fun K hK => ?_)
     refine stp (by with_unfolding_all rfl) (wp_fbs1 T_rvals hF31 (by with_unfolding_all rfl) (ds := cs31) (by with_unfolding_all rfl) hvt31.len (by decide) ?_)
     intro w32 g32 hF32 hz32
     refine hK.out _ _ (⟨hF32.blk (i := 5) rfl, hrk.below hF32.below⟩) (fun _ => ?_)
     clear hK K
     (try simp only [Act.put, List.setIfInBounds_toArray, List.set_cons_zero, List.set_cons_succ])
     refine rdy1 9 (fun K hK => ?_)
     refine stp (by with_unfolding_all rfl) (wp_fappG T_rvals hF32 (i := 2) rfl (Nat.le_refl _) (hF32.rdOwn (i := 0) rfl) hvt31.one (by with_unfolding_all exact ⟨_, _, rfl, rfl, rfl⟩) (by unfold maxLen; omega) (by omega) ?_)
     intro v33 w33 hF33 hz33
     (try simp only [List.set_cons_zero, List.set_cons_succ] at hF33)
     obtain ⟨A33, c33, rfl, hc33⟩ := hF33.ownParts (i := 2) rfl
     refine hK.out _ _ (⟨hF33.blk (i := 5) rfl, hrk.below hF33.below⟩) (fun _ => ?_)
     clear hK K
     (try simp only [Act.put, List.setIfInBounds_toArray, List.set_cons_zero, List.set_cons_succ])
     refine tkp 10 ⟨hF33.blk (i := 5) rfl, hrk.below hF33.below⟩ ?_
     (try simp only [Act.put, List.setIfInBounds_toArray, List.set_cons_zero, List.set_cons_succ])
     refine rdy1 11 (fun K hK => ?_)
     refine stp (by with_unfolding_all rfl) (wp_fst hF33 (i := 1) rfl (v := .slice A33 (i + 1) c33) (by with_unfolding_all exact ⟨_, _, rfl, rfl, rfl⟩) (by kernel_rfl) rfl rfl (by rw [vlL_len]; decide) ?_)
     intro w34 hF34 hz34
     (try simp only [List.set_cons_zero, List.set_cons_succ] at hF34)
     rw [(vlL_4 (k := k) (n := 0) (t := ⟨#[]⟩) (a := .slice none 0 0) (b := .slice Ai i ci'))] at hF34
     refine hK.out _ _ (⟨hF34.blk (i := 5) rfl, hrk.below hF34.below⟩) (fun _ => ?_)
     clear hK K
     (try simp only [Act.put, List.setIfInBounds_toArray, List.set_cons_zero, List.set_cons_succ])
     refine wpAnyH_done (by kernel_rfl) ?_ _
     go_wp2_with fail
     go_roundg (nk - (i + 1))
     case rel => exact ⟨i + 1, A33, c33, _, _, by omega, box rfl, by go_num, hc33, hTn31, hF34.tail⟩
     case measure => have := hkf.out; omega
    refine AllReadyH.cons (by simp only [List.getElem?_toArray, List.getElem?_cons_zero, List.getElem?_cons_succ]; rfl) (fun K hK => ?_) ?_
    ·refine stp (by with_unfolding_all rfl) (wp_call Tryz.func19 rfl (by with_unfolding_all rfl) (by with_unfolding_all rfl) (by with_unfolding_all rfl) (ihc.out _ hFd.below) ?_)
     rintro e w31 ⟨cs31, es31, rfl, hvt31, hv31⟩
     refine ⟨_, rfl, ?_⟩
     have hF31 := hFd.joinR hv31
     simp only [List.cons_append] at hF31
     have hTn31 := box (hT2.out _ _ hvt31)
     refine hK.out _ _ (⟨hF31.blk (i := 4) rfl, hrk.below hF31.below⟩) (fun _ => ?_)
     clear hK K
     (try simp only [Act.put, List.setIfInBounds_toArray, List.set_cons_zero, List.set_cons_succ])
     refine wpAnyH_ready (rs := [1, 8]) (by kernel_rfl) (by simp) ?_
     refine AllReadyH.cons (by simp only [List.getElem?_toArray, List.getElem?_cons_zero, List.getElem?_cons_succ]; rfl) (fun K hK => ?_) ?_
     ·refine stp (by with_unfolding_all rfl) (wp_fld hF31 (i := 0) rfl Tryz.underlying49 rfl (by with_unfolding_all exact ⟨_, rfl, rfl⟩) rfl ?_)
      refine hK.out _ _ (⟨hF31.blk (i := 4) rfl, hrk.below hF31.below⟩) (fun _ => ?_)
      clear hK K
      (try simp only [Act.put, List.setIfInBounds_toArray, List.set_cons_zero, List.set_cons_succ])
      refine rdy1 8 (fun K hK => ?_)
      refine stp (by with_unfolding_all rfl) (wp_fbs1 T_rvals hF31 (by with_unfolding_all rfl) (ds := cs31) (by with_unfolding_all rfl) hvt31.len (by decide) ?_)
      intro w32 g32 hF32 hz32
      refine hK.out _ _ (⟨hF32.blk (i := 5) rfl, hrk.below hF32.below⟩) (fun _ => ?_)
      clear hK K
      (try simp only [Act.put, List.setIfInBounds_toArray, List.set_cons_zero, List.set_cons_succ])
      refine rdy1 9 (fun K hK => ?_)
      refine stp (by with_unfolding_all rfl) (wp_fappG T_rvals hF32 (i := 2) rfl (Nat.le_refl _) (hF32.rdOwn (i := 0) rfl) hvt31.one (by with_unfolding_all exact ⟨_, _, rfl, rfl, rfl⟩) (by unfold maxLen; omega) (by omega) ?_)
      intro v33 w33 hF33 hz33
      (try simp only [List.set_cons_zero, List.set_cons_succ] at hF33)
      obtain ⟨A33, c33, rfl, hc33⟩ := hF33.ownParts (i := 2) rfl
      refine hK.out _ _ (⟨hF33.blk (i := 5) rfl, hrk.below hF33.below⟩) (fun _ => ?_)
      clear hK K
      (try simp only [Act.put, List.setIfInBounds_toArray, List.set_cons_zero, List.set_cons_succ])
      refine tkp 10 ⟨hF33.blk (i := 5) rfl, hrk.below hF33.below⟩ ?_
      (try simp only [Act.put, List.setIfInBounds_toArray, List.set_cons_zero, List.set_cons_succ])
      refine rdy1 11 (fun K hK => ?_)
      refine stp (by with_unfolding_all rfl) (wp_fst hF33 (i := 1) rfl (v := .slice A33 (i + 1) c33) (by with_unfolding_all exact ⟨_, _, rfl, rfl, rfl⟩) (by kernel_rfl) rfl rfl (by rw [vlL_len]; decide) ?_)
      intro w34 hF34 hz34
      (try simp only [List.set_cons_zero, List.set_cons_succ] at hF34)
      rw [(vlL_4 (k := k) (n := 0) (t := ⟨#[]⟩) (a := .slice none 0 0) (b := .slice Ai i ci'))] at hF34
      refine hK.out _ _ (⟨hF34.blk (i := 5) rfl, hrk.below hF34.below⟩) (fun _ => ?_)
      clear hK K
      (try simp only [Act.put, List.setIfInBounds_toArray, List.set_cons_zero, List.set_cons_succ])
      refine wpAnyH_done (by kernel_rfl) ?_ _
      go_wp2_with fail
      go_roundg (nk - (i + 1))
      case rel => exact ⟨i + 1, A33, c33, _, _, by omega, box rfl, by go_num, hc33, hTn31, hF34.tail⟩
      case measure => have := hkf.out; omega
     refine AllReadyH.cons (by simp only [List.getElem?_toArray, List.getElem?_cons_zero, List.getElem?_cons_succ]; rfl) (fun K hK => ?_) ?_
     ·refine stp (by with_unfolding_all rfl) (wp_fbs1 T_rvals hF31 (by with_unfolding_all rfl) (ds := cs31) (by with_unfolding_all rfl) hvt31.len (by decide) ?_)
      intro w32 g32 hF32 hz32
      refine hK.out _ _ (⟨hF32.blk (i := 5) rfl, hrk.below hF32.below⟩) (fun _ => ?_)
      clear hK K
      (try simp only [Act.put, List.setIfInBounds_toArray, List.set_cons_zero, List.set_cons_succ])
      refine rdy1 1 (fun K hK => ?_)
      refine stp (by with_unfolding_all rfl) (wp_fld hF32 (i := 1) rfl Tryz.underlying49 rfl (by with_unfolding_all exact ⟨_, rfl, rfl⟩) rfl ?_)
      refine hK.out _ _ (⟨hF32.blk (i := 5) rfl, hrk.below hF32.below⟩) (fun _ => ?_)
      clear hK K
      (try simp only [Act.put, List.setIfInBounds_toArray, List.set_cons_zero, List.set_cons_succ])
      refine rdy1 9 (fun K hK => ?_)
      refine stp (by with_unfolding_all rfl) (wp_fappG T_rvals hF32 (i := 2) rfl (Nat.le_refl _) (hF32.rdOwn (i := 0) rfl) hvt31.one (by with_unfolding_all exact ⟨_, _, rfl, rfl, rfl⟩) (by unfold maxLen; omega) (by omega) ?_)
      intro v33 w33 hF33 hz33
      (try simp only [List.set_cons_zero, List.set_cons_succ] at hF33)
      obtain ⟨A33, c33, rfl, hc33⟩ := hF33.ownParts (i := 2) rfl
      refine hK.out _ _ (⟨hF33.blk (i := 5) rfl, hrk.below hF33.below⟩) (fun _ => ?_)
      clear hK K
      (try simp only [Act.put, List.setIfInBounds_toArray, List.set_cons_zero, List.set_cons_succ])
      refine tkp 10 ⟨hF33.blk (i := 5) rfl, hrk.below hF33.below⟩ ?_
      (try simp only [Act.put, List.setIfInBounds_toArray, List.set_cons_zero, List.set_cons_succ])
      refine rdy1 11 (fun K hK => ?_)
      refine stp (by with_unfolding_all rfl) (wp_fst hF33 (i := 1) rfl (v := .slice A33 (i + 1) c33) (by with_unfolding_all exact ⟨_, _, rfl, rfl, rfl⟩) (by kernel_rfl) rfl rfl (by rw [vlL_len]; decide) ?_)
      intro w34 hF34 hz34
      (try simp only [List.set_cons_zero, List.set_cons_succ] at hF34)
      rw [(vlL_4 (k := k) (n := 0) (t := ⟨#[]⟩) (a := .slice none 0 0) (b := .slice Ai i ci'))] at hF34
      refine hK.out _ _ (⟨hF34.blk (i := 5) rfl, hrk.below hF34.below⟩) (fun _ => ?_)
      clear hK K
      (try simp only [Act.put, List.setIfInBounds_toArray, List.set_cons_zero, List.set_cons_succ])
      refine wpAnyH_done (by kernel_rfl) ?_ _
      go_wp2_with fail
      go_roundg (nk - (i + 1))
      case rel => exact ⟨i + 1, A33, c33, _, _, by omega, box rfl, by go_num, hc33, hTn31, hF34.tail⟩
      case measure => have := hkf.out; omega
     exact AllReadyH.nil
    exact AllReadyH.nil
   ·obtain rfl : nk = i := by omega
    have hall : ks.take nk = ks := List.take_of_length_le (by rw [hnk.out]; exact Nat.le_refl _)
    rw [hall] at hT
    clear hall hlt hkf
    by_cases hk6 : k = 6
    ·subst hk6
     have hjb : Box (jBare (.mk 6 n t ns ks) = .mk 6 0 [] ns (ks.map jBare)) := box (by rw [jBare, jBareL_map]; rfl)
     go_wp2_with (first | (with_reducible refine lst (by with_unfolding_all rfl) (wp_fld4 hF Tryz.underlying49 rfl (by with_unfolding_all exact ⟨_, rfl, rfl⟩) rfl ?_)) | (with_reducible refine lst (by with_unfolding_all rfl) (wp_fld4 hF Tryz.underlying3 rfl (by with_unfolding_all exact ⟨_, rfl, rfl⟩) rfl ?_)))
     go_loopg [5] nn (fun gk s wr => ∃ (j : Nat) (Aj : Option Addr) (cj : Nat), j ≤ nn ∧ Box (gk = nn - j) ∧ s = .int .i64 (j : Int) ∧ j ≤ cj ∧ Fr [] w wr (.blk g3 51 (vlL 6 0 ⟨#[]⟩ (.slice Aj j cj) (.slice Ai nk ci')) :: .own w.heap.size 51 5 (.slice Ai nk ci') nk xs :: .own w.heap.size 9 1 (.slice Aj j cj) j ((ns.take j).map strv) :: .blk g2 51 vl0 :: .blk g1 51 (vlL 6 n ⟨t.toArray⟩ (.slice An nn cn) (.slice Ak nk ck)) :: TE))
     case atStart => exact ⟨0, none, 0, by omega, box rfl, rfl, by omega, hF⟩
     case round =>
      clear hF
      obtain ⟨j, Aj, cj, hj, hk, rfl, hcj, hF⟩ := hrel
      have hkf : Box (_ = nn - j) := hk
      clear hk
      by_cases hlt : j < nn
      ·obtain ⟨s, hs⟩ : ∃ s, ns[j]? = some s := ⟨ns[j]'(by rw [hnn.out]; exact hlt), by simp⟩
       have hss : Box ((ns.map strv)[j]? = some (.string ⟨s.toArray⟩)) := box (by rw [List.getElem?_map, hs]; rfl)
       have hsn : Box ((ns.take j).map strv ++ [.string ⟨s.toArray⟩] = (ns.take (j + 1)).map strv) := box (by rw [List.take_add_one, hs, List.map_append]; rfl)
       replace hs := box hs
       go_upto_region 15 with (first | (with_reducible refine lst (by with_unfolding_all rfl) (wp_fld4 hF Tryz.underlying48 rfl (by with_unfolding_all exact ⟨_, rfl, rfl⟩) rfl ?_)))
       have hFd := hF.drew
       refine wp_region_held (S := fun w' => w'.heap[g1]? = some (.cells (List.toArray (vlL 6 n ⟨t.toArray⟩ (.slice An nn cn) (.slice Ak nk ck))) 51 (0, 0)) ∧ Rd w' (· < w.heap.size) An 1 nn (ns.map strv)) (by kernel_rfl) ?_
       change wpAnyH _ _ _ _ _ _ _ _ (World.drew _)
       refine tkp 0 ⟨hFd.blk (i := 4) rfl, hrn.below hFd.below⟩ ?_
       (try simp only [Act.put, List.setIfInBounds_toArray, List.set_cons_zero, List.set_cons_succ])
       refine tkp 2 ⟨hFd.blk (i := 4) rfl, hrn.below hFd.below⟩ ?_
       (try simp only [Act.put, List.setIfInBounds_toArray, List.set_cons_zero, List.set_cons_succ])
       refine tky 3 (y := yi_fld (by with_unfolding_all rfl) (fun _ h => h.1) Tryz.underlying48 rfl (by with_unfolding_all exact ⟨_, rfl, rfl⟩) rfl) (s := ⟨hFd.blk (i := 4) rfl, hrn.below hFd.below⟩) (h := ?_)
       (try simp only [Act.put, List.setIfInBounds_toArray, List.set_cons_zero, List.set_cons_succ])
       refine tkp 4 ⟨hFd.blk (i := 4) rfl, hrn.below hFd.below⟩ ?_
       (try simp only [Act.put, List.setIfInBounds_toArray, List.set_cons_zero, List.set_cons_succ])
       refine tky 5 (y := yi_ix (by with_unfolding_all rfl) T_strs (fun h => hrn.some_ h) (k := j) (by with_unfolding_all exact ⟨_, _, _, _, rfl, rfl, rfl⟩) rfl (by omega)) (s := ⟨hFd.blk (i := 4) rfl, hrn.below hFd.below⟩) (h := ?_)
       (try simp only [Act.put, List.setIfInBounds_toArray, List.set_cons_zero, List.set_cons_succ])
       refine tky 6 (y := yi_ld (by with_unfolding_all rfl) (j := j * 1) (fun _ h => h.2) Tryz.underlying9 rfl (by with_unfolding_all exact ⟨_, rfl, rfl⟩) (by rw [Nat.mul_one]; exact hss.out)) (s := ⟨hFd.blk (i := 4) rfl, hrn.below hFd.below⟩) (h := ?_)
       (try simp only [Act.put, List.setIfInBounds_toArray, List.set_cons_zero, List.set_cons_succ])
       refine wpAnyH_ready (rs := [1, 7]) (by kernel_rfl) (by simp) ?_
       refine AllReadyH.cons (by simp only [List.getElem?_toArray, List.getElem?_cons_zero, List.getElem?_cons_succ]; rfl) (fun K hK => ?_) ?_
       ·refine stp (by with_unfolding_all rfl) (wp_fld hFd (i := 0) rfl Tryz.underlying48 rfl (by with_unfolding_all exact ⟨_, rfl, rfl⟩) rfl ?_)
        refine hK.out _ _ (⟨hFd.blk (i := 4) rfl, hrn.below hFd.below⟩) (fun _ => ?_)
        clear hK K
        (try simp only [Act.put, List.setIfInBounds_toArray, List.set_cons_zero, List.set_cons_succ])
        refine rdy1 7 (fun K hK => ?_)
        refine stp (by with_unfolding_all rfl) (wp_fbsl T_strs hFd (vs := [.string ⟨s.toArray⟩]) (by with_unfolding_all rfl) (by with_unfolding_all rfl) (by with_unfolding_all rfl) (by decide) (by simp [Value.cells]) ?_)
        intro w31 g31 hF31 hz31
        refine hK.out _ _ (⟨hF31.blk (i := 5) rfl, hrn.below hF31.below⟩) (fun _ => ?_)
        clear hK K
        (try simp only [Act.put, List.setIfInBounds_toArray, List.set_cons_zero, List.set_cons_succ])
        refine rdy1 8 (fun K hK => ?_)
        refine stp (by with_unfolding_all rfl) (wp_fappG T_strs hF31 (i := 3) rfl (Nat.le_refl _) (hF31.rdOwn (i := 0) rfl) (by intro u hu; simp only [List.mem_singleton] at hu; subst hu; rfl) (by with_unfolding_all exact ⟨_, _, rfl, rfl, rfl⟩) (by unfold maxLen; omega) (by omega) ?_)
        intro v32 w32 hF32 hz32
        (try simp only [List.set_cons_zero, List.set_cons_succ] at hF32)
        obtain ⟨A32, c32, rfl, hc32⟩ := hF32.ownParts (i := 3) rfl
        refine hK.out _ _ (⟨hF32.blk (i := 5) rfl, hrn.below hF32.below⟩) (fun _ => ?_)
        clear hK K
        (try simp only [Act.put, List.setIfInBounds_toArray, List.set_cons_zero, List.set_cons_succ])
        refine tkp 9 ⟨hF32.blk (i := 5) rfl, hrn.below hF32.below⟩ ?_
        (try simp only [Act.put, List.setIfInBounds_toArray, List.set_cons_zero, List.set_cons_succ])
        refine rdy1 10 (fun K hK => ?_)
        refine stp (by with_unfolding_all rfl) (wp_fst hF32 (i := 1) rfl (v := .slice A32 (j + 1) c32) (by with_unfolding_all exact ⟨_, _, rfl, rfl, rfl⟩) (by kernel_rfl) rfl rfl (by rw [vlL_len]; decide) ?_)
        intro w33 hF33 hz33
        (try simp only [List.set_cons_zero, List.set_cons_succ] at hF33)
        rw [(vlL_3 (k := 6) (n := 0) (t := ⟨#[]⟩) (a := .slice Aj j cj) (b := .slice Ai nk ci'))] at hF33
        refine hK.out _ _ (⟨hF33.blk (i := 5) rfl, hrn.below hF33.below⟩) (fun _ => ?_)
        clear hK K
        (try simp only [Act.put, List.setIfInBounds_toArray, List.set_cons_zero, List.set_cons_succ])
        refine wpAnyH_done (by kernel_rfl) ?_ _
        go_wp2_with fail
        go_roundg (nn - (j + 1))
        case rel => exact ⟨j + 1, A32, c32, by omega, box rfl, by go_num, hc32, by have h5 := hF33.tail; rw [hsn.out] at h5; exact h5⟩
        case measure => have := hkf.out; omega
       refine AllReadyH.cons (by simp only [List.getElem?_toArray, List.getElem?_cons_zero, List.getElem?_cons_succ]; rfl) (fun K hK => ?_) ?_
       ·refine stp (by with_unfolding_all rfl) (wp_fbsl T_strs hFd (vs := [.string ⟨s.toArray⟩]) (by with_unfolding_all rfl) (by with_unfolding_all rfl) (by with_unfolding_all rfl) (by decide) (by simp [Value.cells]) ?_)
        intro w31 g31 hF31 hz31
        refine hK.out _ _ (⟨hF31.blk (i := 5) rfl, hrn.below hF31.below⟩) (fun _ => ?_)
        clear hK K
        (try simp only [Act.put, List.setIfInBounds_toArray, List.set_cons_zero, List.set_cons_succ])
        refine rdy1 1 (fun K hK => ?_)
        refine stp (by with_unfolding_all rfl) (wp_fld hF31 (i := 1) rfl Tryz.underlying48 rfl (by with_unfolding_all exact ⟨_, rfl, rfl⟩) rfl ?_)
        refine hK.out _ _ (⟨hF31.blk (i := 5) rfl, hrn.below hF31.below⟩) (fun _ => ?_)
        clear hK K
        (try simp only [Act.put, List.setIfInBounds_toArray, List.set_cons_zero, List.set_cons_succ])
        refine rdy1 8 (fun K hK => ?_)
        refine stp (by with_unfolding_all rfl) (wp_fappG T_strs hF31 (i := 3) rfl (Nat.le_refl _) (hF31.rdOwn (i := 0) rfl) (by intro u hu; simp only [List.mem_singleton] at hu; subst hu; rfl) (by with_unfolding_all exact ⟨_, _, rfl, rfl, rfl⟩) (by unfold maxLen; omega) (by omega) ?_)
        intro v32 w32 hF32 hz32
        (try simp only [List.set_cons_zero, List.set_cons_succ] at hF32)
        obtain ⟨A32, c32, rfl, hc32⟩ := hF32.ownParts (i := 3) rfl
        refine hK.out _ _ (⟨hF32.blk (i := 5) rfl, hrn.below hF32.below⟩) (fun _ => ?_)
        clear hK K
        (try simp only [Act.put, List.setIfInBounds_toArray, List.set_cons_zero, List.set_cons_succ])
        refine tkp 9 ⟨hF32.blk (i := 5) rfl, hrn.below hF32.below⟩ ?_
        (try simp only [Act.put, List.setIfInBounds_toArray, List.set_cons_zero, List.set_cons_succ])
        refine rdy1 10 (fun K hK => ?_)
        refine stp (by with_unfolding_all rfl) (wp_fst hF32 (i := 1) rfl (v := .slice A32 (j + 1) c32) (by with_unfolding_all exact ⟨_, _, rfl, rfl, rfl⟩) (by kernel_rfl) rfl rfl (by rw [vlL_len]; decide) ?_)
        intro w33 hF33 hz33
        (try simp only [List.set_cons_zero, List.set_cons_succ] at hF33)
        rw [(vlL_3 (k := 6) (n := 0) (t := ⟨#[]⟩) (a := .slice Aj j cj) (b := .slice Ai nk ci'))] at hF33
        refine hK.out _ _ (⟨hF33.blk (i := 5) rfl, hrn.below hF33.below⟩) (fun _ => ?_)
        clear hK K
        (try simp only [Act.put, List.setIfInBounds_toArray, List.set_cons_zero, List.set_cons_succ])
        refine wpAnyH_done (by kernel_rfl) ?_ _
        go_wp2_with fail
        go_roundg (nn - (j + 1))
        case rel => exact ⟨j + 1, A32, c32, by omega, box rfl, by go_num, hc32, by have h5 := hF33.tail; rw [hsn.out] at h5; exact h5⟩
        case measure => have := hkf.out; omega
       exact AllReadyH.nil
      ·obtain rfl : nn = j := by omega
       have hall : ns.take nn = ns := List.take_of_length_le (by rw [hnn.out]; exact Nat.le_refl _)
       rw [hall] at hF
       clear hall hlt hkf
       go_wp2_with (first | (with_reducible refine lst (by with_unfolding_all rfl) (wp_fld4 hF Tryz.underlying48 rfl (by with_unfolding_all exact ⟨_, rfl, rfl⟩) rfl ?_)) | (with_reducible refine lst (by with_unfolding_all rfl) (wp_fldA0 hF Tryz.underlying51 rfl (by with_unfolding_all exact ⟨_, rfl, rfl⟩) (ds := (vlL 6 0 ⟨#[]⟩ (.slice Aj nn cj) (.slice Ai nk ci'))) (by rw [vlL_len]; kernel_rfl) (take_all _) ?_)) | ((with_reducible refine lst (by with_unfolding_all rfl) (wp_fstA3 hF (by with_unfolding_all exact ⟨_, _, rfl, rfl, rfl⟩) (by rw [vlL_len]; kernel_rfl) vlL_one vlL_fit vlL_spl ?_)); intro w9 hF9 hz9))
       exact bodyPost_ret (results_cellF rfl _ hF9 (i := 3) rfl rfl Tryz.underlying51 rfl (by rw [vlL_len]; kernel_rfl)) rfl (by
        rw [hjb.out]
        refine ⟨_, _, rfl, VT.mk_ (ns := ns) hcj hci' hT.out, ?_⟩
        have h1 := hF9.toRd (i := 1) rfl
        simp only [List.set_cons_succ, List.set_cons_zero] at h1
        have h2 := h1.toRd (i := 2) rfl
        simp only [List.set_cons_succ, List.set_cons_zero] at h2
        refine (h2.sub (es' := .rd Ai 5 nk xs :: .rd Aj 1 nn ((ns).map strv) :: TE) ?_).perm (List.Perm.swap _ _ _)
        exact (((((List.Sublist.refl _).cons _).cons _).cons_cons _).cons_cons _).cons _)
    ·have d6 : (k == 6) = false := by rw [beq_eq_false_iff_ne]; exact hk6
     have hjb : Box (jBare (.mk k n t ns ks) = .mk k 0 [] [] (ks.map jBare)) := box (by rw [jBare, jBareL_map, if_neg hk3.out, if_neg hk4.out, if_neg hk6, if_pos hk5.out])
     have hcj : 0 ≤ 0 := Nat.le_refl 0
     replace hk6 := box hk6
     go_wp2_with (first | (with_reducible refine lst (by with_unfolding_all rfl) (wp_fld4 hF Tryz.underlying49 rfl (by with_unfolding_all exact ⟨_, rfl, rfl⟩) rfl ?_)) | (with_reducible refine lst (by with_unfolding_all rfl) (wp_fld4 hF Tryz.underlying3 rfl (by with_unfolding_all exact ⟨_, rfl, rfl⟩) rfl ?_)) | (with_reducible refine lst (by with_unfolding_all rfl) (wp_fldA0 hF Tryz.underlying51 rfl (by with_unfolding_all exact ⟨_, rfl, rfl⟩) (ds := (vlL k 0 ⟨#[]⟩ (.slice none 0 0) (.slice Ai nk ci'))) (by rw [vlL_len]; kernel_rfl) (take_all _) ?_)) | ((with_reducible refine lst (by with_unfolding_all rfl) (wp_fstA3 hF (by with_unfolding_all exact ⟨_, _, rfl, rfl, rfl⟩) (by rw [vlL_len]; kernel_rfl) vlL_one vlL_fit vlL_spl ?_)); intro w9 hF9 hz9))
     exact bodyPost_ret (results_cellF rfl _ hF9 (i := 3) rfl rfl Tryz.underlying51 rfl (by rw [vlL_len]; kernel_rfl)) rfl (by
      rw [hjb.out]
      refine ⟨_, _, rfl, VT.mk_ (ns := []) hcj hci' hT.out, ?_⟩
      have h1 := hF9.toRd (i := 1) rfl
      simp only [List.set_cons_succ, List.set_cons_zero] at h1
      have h2 := h1.toRd (i := 2) rfl
      simp only [List.set_cons_succ, List.set_cons_zero] at h2
      refine (h2.sub (es' := .rd Ai 5 nk xs :: .rd none 1 0 (([]).map strv) :: TE) ?_).perm (List.Perm.swap _ _ _)
      exact (((((List.Sublist.refl _).cons _).cons _).cons_cons _).cons_cons _).cons _)
end Go.Proofs.YtlhicfpmlncomaaGreatDoor

namespace Go.Proofs.YtlhicfpmlncomaaGreatDoor
open Go.RowKit
set_option linter.unusedSimpArgs false
set_option linter.unusedVariables false
theorem jWrite_len8 {u : JV} {l : List UInt8} {f : Nat} (h : jWrite u = (l, f)) : l.length ≤ 65536 := by
 unfold jWrite at h
 split at h
 ·injection h with h1 h2; subst h1 h2; simp
 ·split at h
  ·injection h with h1 h2; subst h1 h2; simp
  ·injection h with h1 h2; subst h1 h2; omega
theorem mDr_mb (v : JV) : MB (mDc (mRead v)) := by
 cases h : mRead v with
 | ok d => exact (mRead_mb h).mb
 | error e => exact MBs.zero.mb
set_option maxRecDepth 20000 in
set_option maxHeartbeats 12800000 in
theorem manifestTells_any (v : JV) (cs : List Value) (w : World) (hL : MLibs w.heap.size w) (hv : VRd w (· < w.heap.size) v cs) (hw : jW v ≤ 1048576) (hji : JI v) :
  Calls Tryz.prog 4 #[.agg cs.toArray] w fun e w' => e = .returned (.bool true) ∧ Below w.heap.size w w' := by
 have hcl := box hv.len
 have hco := box (VRd.ones hv)
 have hsm := jW_sm v hw
 have htx := jW_tx v hw
 have htot1 := jTot_w v
 have hfl1 := jW_full v hji
 have htot : jTot v ≤ 10000000 := by omega
 have hfl : 6 * (jFull v).length ≤ 140737480000000 := by omega
 clear htot1 hfl1 hji
 obtain ⟨⟨l, f⟩, hR⟩ : ∃ R, R = jWrite v := ⟨_, rfl⟩
 have hln := jWrite_len8 hR.symm
 have hwr := box (fun (w' : World) (hb : Below w.heap.size w w') => rwrite_any v cs w' (hv.on hb) hsm htx htot hfl)
 rw [← hR] at hwr
 simp only [] at hwr
 have hba := box (fun (w' : World) (hb : Below w.heap.size w w') => rbare_any (SizeOf.sizeOf v) v cs w' (Nat.le_refl _) (hv.on hb) hsm)
 replace htot := box htot
 replace hfl := box hfl
 have hF0 := Fr.nil w
 by_cases hf : f = 0
 ·subst hf
  obtain ⟨hpl, _, _⟩ := jBack hw hR.symm
  have hob := jParse_ob hpl
  have hmp : mParse l = mRead (jBare v) := by unfold mParse; rw [hpl]
  obtain ⟨bu, hbu⟩ : ∃ b, b = jBare v := ⟨_, rfl⟩
  rw [← hbu] at hmp hob hba
  have hmb := box (mDr_mb bu)
  obtain ⟨M, hM⟩ : ∃ M, M = mRead bu := ⟨_, rfl⟩
  rw [← hM] at hmp hmb
  have hrd := box (fun (ca : List Value) (w' : World) h => rread_any bu ca w' h hob)
  rw [← hM] at hrd
  have hps := box (fun (A : Option Addr) (n c : Nat) (w' : World) (hb : Below w.heap.size w w') (hnc : n ≤ c) (hn : n ≤ 140737488355328) h => mparse_any A n c l w' ((hL.on hb).up hb.size) hnc hn h)
  rw [hmp] at hps
  replace hw := box hw
  replace hR := box hR
  replace hpl := box hpl
  replace hmp := box hmp
  replace hbu := box hbu
  replace hM := box hM
  replace hob := box hob
  clear hsm htx
  go_enter Tryz.func4, Tryz.ntmps4
  go_wp2_with (first | ((with_reducible refine lst (by with_unfolding_all rfl) (wp_fbox hF0 (cs := cs) rfl (by with_unfolding_all rfl) (by with_unfolding_all rfl) ?_)); intro w1 g1 hF1 hz1) | (with_reducible refine lst (by with_unfolding_all rfl) (wp_fldA0 hF1 Tryz.underlying51 rfl (by with_unfolding_all exact ⟨_, rfl, rfl⟩) (ds := cs) (by rw [hcl.out]; kernel_rfl) (take_all _) ?_)))
  refine (hwr.out _ hF1.below).mono ?_
  rintro e w2 ⟨rfl, hb2⟩
  have hF2 := hF1.call hb2
  clear hwr hF0 hF1
  go_upto_region 2 with fail
  have haw := box (mawake_any w2 w.heap.size hF2.below.size (hL.on hF2.below))
  go_wp2_with fail
  refine haw.out.mono ?_
  rintro e w3 ⟨rfl, hb3⟩
  have hF3 := hF2.call hb3
  clear haw hb3 hF2
  go_upto_region 4 with fail
  go_wp2_with (first | ((with_reducible refine lst (by with_unfolding_all rfl) (wp_fs2b T_u8 Tryz.underlying5 Tryz.underlying9 hF3 (by with_unfolding_all exact ⟨_, rfl, rfl⟩) ?_)); intro w4 g4 c4 hF4 hz4 hc4))
  (try rw [str_mk_size] at hc4)
  (try rw [str_mk_size] at hF4)
  have hpp := box (hps.out (some ⟨g4, 0, none⟩) l.length c4 w4 hF4.below hc4 (by omega) (hF4.rd (i := 0) rfl))
  refine hpp.out.mono ?_
  rintro e w5 ⟨cs5, es5, rfl, hD5, h5⟩
  have hF5 := hF4.joinR h5
  simp only [List.cons_append] at hF5
  have hvl5 := box hD5.len
  have hvo5 := box hD5.ones
  replace hD5 := box hD5
  clear hps hpp h5 hF4 hF3
  go_upto_region 5 with (first | ((with_reducible refine lst (by with_unfolding_all rfl) (wp_falloc hF5 (cs := doc0) (z := .agg (List.toArray (doc0))) rfl (by kernel_rfl) (by with_unfolding_all rfl) ?_)); intro w6 g6 hF6 hz6) | ((with_reducible refine lst (by with_unfolding_all rfl) (wp_fstA0 hF6 (by with_unfolding_all exact ⟨_, _, rfl, rfl, rfl⟩) (by rw [hvl5.out]; kernel_rfl) hvo5.out (by rw [hvl5.out]; decide) (spl_all (by rw [hvl5.out, doc0_len])) ?_)); intro w7 hF7 hz7))
  clear hF5 hF6
  go_wp2_with (first | (with_reducible refine lst (by with_unfolding_all rfl) (wp_fldA2 hF7 Tryz.underlying51 rfl (by with_unfolding_all exact ⟨_, rfl, rfl⟩) (ds := cs) (by rw [hcl.out]; kernel_rfl) (take_all _) ?_)))
  refine (hba.out _ hF7.below).mono ?_
  rintro e w8 ⟨cs8, es8, rfl, hvt8, h8⟩
  have hF8 := hF7.joinR h8
  simp only [List.cons_append] at hF8
  clear hba h8 hF7
  have hrr := box (hrd.out cs8 w8 (hvt8.rdS hF8 (by intro e he; simp [he])))
  clear hvt8 hrd
  go_wp2_with fail
  refine hrr.out.mono ?_
  rintro e w9 ⟨cs9, es9, rfl, hD9, h9⟩
  have hF9 := hF8.joinR h9
  simp only [List.cons_append] at hF9
  have hvl9 := box hD9.len
  have hvo9 := box hD9.ones
  replace hD9 := box hD9
  clear hrr h9 hF8
  go_upto_region 6 with (first | ((with_reducible refine lst (by with_unfolding_all rfl) (wp_falloc hF9 (cs := doc0) (z := .agg (List.toArray (doc0))) rfl (by kernel_rfl) (by with_unfolding_all rfl) ?_)); intro w10 g10 hF10 hz10) | ((with_reducible refine lst (by with_unfolding_all rfl) (wp_fstA0 hF10 (by with_unfolding_all exact ⟨_, _, rfl, rfl, rfl⟩) (by rw [hvl9.out]; kernel_rfl) hvo9.out (by rw [hvl9.out]; decide) (spl_all (by rw [hvl9.out, doc0_len])) ?_)); intro w11 hF11 hz11))
  clear hF9 hF10
  have hfr1 := box (fun (w' : World) (es' : List Ent) (hF : Fr [] w w' es') (hs : ∀ e ∈ es5, e ∈ es') => From_any (mDc M) cs5 w' (hD5.out.rdDoc hF hs) hmb.out)
  have hFd := hF11.drew
  clear hF11
  refine wp_region_held (S := fun w' => w'.heap[g10]? = some (.cells (List.toArray cs9) 40 (0, 0)) ∧ w'.heap[g6]? = some (.cells (List.toArray cs5) 31 (0, 0))) (by kernel_rfl) ?_
  change wpAnyH _ _ _ _ _ _ _ _ (World.drew _)
  refine tkp 0 ⟨hFd.blk (i := 0) rfl, hFd.blk (i := 1) rfl⟩ ?_
  (try simp only [Act.put, List.setIfInBounds_toArray, List.set_cons_zero, List.set_cons_succ])
  refine tkp 1 ⟨hFd.blk (i := 0) rfl, hFd.blk (i := 1) rfl⟩ ?_
  (try simp only [Act.put, List.setIfInBounds_toArray, List.set_cons_zero, List.set_cons_succ])
  refine tkp 2 ⟨hFd.blk (i := 0) rfl, hFd.blk (i := 1) rfl⟩ ?_
  (try simp only [Act.put, List.setIfInBounds_toArray, List.set_cons_zero, List.set_cons_succ])
  refine tkp 3 ⟨hFd.blk (i := 0) rfl, hFd.blk (i := 1) rfl⟩ ?_
  (try simp only [Act.put, List.setIfInBounds_toArray, List.set_cons_zero, List.set_cons_succ])
  refine tky 4 (y := yi_fldA (by with_unfolding_all rfl) (fun _ h => h.2) Tryz.underlying31 rfl (by with_unfolding_all exact ⟨_, rfl, rfl⟩) (ds := cs5) (by rw [hvl5.out]; kernel_rfl) (take_all _)) (s := ⟨hFd.blk (i := 0) rfl, hFd.blk (i := 1) rfl⟩) (h := ?_)
  (try simp only [Act.put, List.setIfInBounds_toArray, List.set_cons_zero, List.set_cons_succ])
  refine tky 6 (y := yi_fldA (by with_unfolding_all rfl) (fun _ h => h.1) Tryz.underlying40 rfl (by with_unfolding_all exact ⟨_, rfl, rfl⟩) (ds := cs9) (by rw [hvl9.out]; kernel_rfl) (take_all _)) (s := ⟨hFd.blk (i := 0) rfl, hFd.blk (i := 1) rfl⟩) (h := ?_)
  (try simp only [Act.put, List.setIfInBounds_toArray, List.set_cons_zero, List.set_cons_succ])
  refine rdy1 5 (fun K hK => ?_)
  refine stp (by with_unfolding_all rfl) (wp_call Tryz.func15 rfl (by with_unfolding_all rfl) (by with_unfolding_all rfl) (by with_unfolding_all rfl) (hfr1.out _ _ hFd (by intro e he; simp [he])) ?_)
  rintro e w31 ⟨cs31, es31, rfl, hvt31, hv31⟩
  refine ⟨_, rfl, ?_⟩
  have hF31 := hFd.joinR hv31
  simp only [List.cons_append] at hF31
  refine hK.out _ _ (⟨hF31.blk (i := 0) rfl, hF31.blk (i := 1) rfl⟩) (fun _ => ?_)
  clear hK K
  (try simp only [Act.put, List.setIfInBounds_toArray, List.set_cons_zero, List.set_cons_succ])
  refine rdy1 7 (fun K hK => ?_)
  refine stp (by with_unfolding_all rfl) (wp_call Tryz.func14 rfl (by with_unfolding_all rfl) (by with_unfolding_all rfl) (by with_unfolding_all rfl) (msame_any _ _ _ _ hmb.out (hvt31.rdDoc hF31 (by intro e he; simp [he])) (hD9.out.rdDoc hF31 (by intro e he; simp [he]))) ?_)
  rintro e w32 ⟨rfl, hb32⟩
  refine ⟨_, rfl, ?_⟩
  have hF32 := hF31.call hb32
  refine hK.out _ _ (⟨hF32.blk (i := 0) rfl, hF32.blk (i := 1) rfl⟩) (fun _ => ?_)
  clear hK K
  (try simp only [Act.put, List.setIfInBounds_toArray, List.set_cons_zero, List.set_cons_succ])
  refine tkp 8 ⟨hF32.blk (i := 0) rfl, hF32.blk (i := 1) rfl⟩ ?_
  (try simp only [Act.put, List.setIfInBounds_toArray, List.set_cons_zero, List.set_cons_succ])
  refine tkp 9 ⟨hF32.blk (i := 0) rfl, hF32.blk (i := 1) rfl⟩ ?_
  (try simp only [Act.put, List.setIfInBounds_toArray, List.set_cons_zero])
  refine wpAnyH_done (by kernel_rfl) ?_ _
  go_wp2_with fail
  go_ret
  exact ⟨rfl, hF32.below⟩
 ·have hne : ((f : Int) != 0) = true := by rw [bne_iff_ne]; omega
  replace hf := box hf
  replace hw := box hw
  replace hR := box hR
  clear hba hsm htx
  go_enter Tryz.func4, Tryz.ntmps4
  go_wp2_with (first | ((with_reducible refine lst (by with_unfolding_all rfl) (wp_fbox hF0 (cs := cs) rfl (by with_unfolding_all rfl) (by with_unfolding_all rfl) ?_)); intro w1 g1 hF1 hz1) | (with_reducible refine lst (by with_unfolding_all rfl) (wp_fldA0 hF1 Tryz.underlying51 rfl (by with_unfolding_all exact ⟨_, rfl, rfl⟩) (ds := cs) (by rw [hcl.out]; kernel_rfl) (take_all _) ?_)))
  refine (hwr.out _ hF1.below).mono ?_
  rintro e w2 ⟨rfl, hb2⟩
  have hF2 := hF1.call hb2
  clear hwr hF0 hF1
  go_upto_region 2 with fail
  have haw := box (mawake_any w2 w.heap.size hF2.below.size (hL.on hF2.below))
  go_wp2_with fail
  refine haw.out.mono ?_
  rintro e w3 ⟨rfl, hb3⟩
  have hF3 := hF2.call hb3
  clear haw hb3 hF2
  have haw := box (mawake_any w3 w.heap.size hF3.below.size (hL.on hF3.below))
  go_upto_region 3 with fail
  go_wp2_with fail
  refine haw.out.mono ?_
  rintro e w4 ⟨rfl, hb4⟩
  have hF4 := hF3.call hb4
  go_wp2_with fail
  go_ret
  exact ⟨rfl, hF4.below⟩
end Go.Proofs.YtlhicfpmlncomaaGreatDoor

namespace Go.Proofs.YtlhicfpmlncomaaGreatDoor
open Go.RowKit Go.Lib
theorem cell_old {w w' : World} (hb : Below w.heap.size w w') {a : Addr} {v : Value} (h : w.cell? a = some v) : w'.cell? a = some v := by
 have hlt : a.block < w.heap.size := by
  rcases Nat.lt_or_ge a.block w.heap.size with h' | h'
  ·exact h'
  ·exfalso
   unfold World.cell? at h
   rw [Array.getElem?_eq_none h'] at h
   cases h
 rw [← h]
 exact World.cell?_of_block (w := w) (hb.block _ hlt)
theorem var_old {P : Program} {w w' : World} (hb : Below w.heap.size w w') {n : String} {cs : Array Value} (h : w.var? P n = some cs) : w'.var? P n = some cs := by
 unfold World.var? at *
 cases hg : P.globalNamed n with
 | none => simp [hg] at h
 | some g =>
  simp only [hg, Option.bind_some] at h ⊢
  have hlt : g < w.heap.size := by
   rcases Nat.lt_or_ge g w.heap.size with h' | h'
   ·exact h'
   ·rw [Array.getElem?_eq_none h'] at h; simp at h
  rw [hb.block g hlt]
  exact h
theorem first_eq : Rows.laid_unicode_utf8_first = firstData := by kernel_rfl
theorem accept_eq : (Rows.laid_unicode_utf8_acceptRanges : DataW Unit) = acceptData := by kernel_rfl
theorem pow_eq : (Rows.laid_internal_strconv_uint64pow10 : DataW Unit) = tabData .u64 pow10Tab := by kernel_rfl
theorem star_errs : "*" ++ "errors.errorString" = "*errors.errorString" := by decide
theorem row_errs (u : TypeId) (h : Tryz.prog.typeName? 3 u = some "*errors.errorString") : u = 254 :=
 typeName_ptr_named (nm := "errors.errorString") (by rw [star_errs]; kernel_rfl) (by kernel_rfl) (by decide) u (by rw [star_errs]; exact h)
theorem row_ints : Tryz.prog.globalNamed "errors.errorType" = some 0 := by kernel_rfl
theorem row_rt : (Tryz.prog.cutTypes.find? (·.1 == "internal/reflectlite.rtype")).map (·.2) = some 177 := by kernel_rfl
theorem row_err : ((List.range Tryz.prog.types.size).filter fun t => Tryz.prog.rowNamed t [101, 114, 114, 111, 114]) = [80] := by kernel_rfl
theorem row_handle : typeHandle Tryz.prog 80 = .pointer (some ⟨9, 80, none⟩) := by kernel_rfl
/-- The listed variables that are no handles. -/
def mPlain : List (String × DataW Unit) := [("math/bits.deBruijn32tab", Rows.laid_math_bits_deBruijn32tab), ("math/bits.deBruijn64tab", Rows.laid_math_bits_deBruijn64tab), ("internal/strconv.uint64pow10", Rows.laid_internal_strconv_uint64pow10), ("unicode/utf8.acceptRanges", Rows.laid_unicode_utf8_acceptRanges), ("strconv.ErrRange", Rows.laid_strconv_ErrRange), ("strconv.ErrSyntax", Rows.laid_strconv_ErrSyntax), ("unicode/utf8.first", Rows.laid_unicode_utf8_first)]
theorem laid_both (W : World) (h : laidMetH Tryz.prog Rows.manifestReadsUptoRow.laid W) : laidMet Tryz.prog mPlain W ∧ handlesMet Tryz.prog [("errors.errorType", Rows.laid_errors_errorType)] W := h
theorem handle_of (W : World) (h : handlesMet Tryz.prog [("errors.errorType", Rows.laid_errors_errorType)] W) : W.cell? ⟨0, 0, none⟩ = some (.iface 177 (.agg #[.pointer (some ⟨9, 80, none⟩)])) := by
 obtain ⟨name, u, ty, e1, e2, e3, e4, e5⟩ := h _ (List.mem_singleton.2 rfl)
 have en : name = [101, 114, 114, 111, 114] := (Option.some.inj e1).symm
 subst en
 obtain rfl := Option.some.inj (row_rt.symm.trans e2)
 have hm : ty ∈ (List.range Tryz.prog.types.size).filter fun t => Tryz.prog.rowNamed t [101, 114, 114, 111, 114] := List.mem_filter.2 ⟨List.mem_range.2 e3, e4⟩
 rw [row_err] at hm
 obtain rfl := List.mem_singleton.1 hm
 rw [row_handle] at e5
 simpa using World.var?_cell row_ints e5 0
theorem maxW_of {w : World} (h : w.ShapedOpen Tryz.prog) : MaxW w := Go.Proofs.cell_of_shapedOpen_int (zero := #[.int .i64 0]) (t := 3) h (of_decide_eq_true (by kernel_rfl)) (by kernel_rfl) rfl (by kernel_rfl) (by kernel_rfl) Tryz.underlying3
theorem libs_of (W : World) (hL : laidMet Tryz.prog mPlain W) : LibsAt W.heap.size W := by
 have hL2 : laidMet Tryz.prog [("math/bits.deBruijn32tab", Rows.laid_math_bits_deBruijn32tab), ("math/bits.deBruijn64tab", Rows.laid_math_bits_deBruijn64tab), ("internal/strconv.uint64pow10", Rows.laid_internal_strconv_uint64pow10), ("unicode/utf8.acceptRanges", Rows.laid_unicode_utf8_acceptRanges), ("strconv.ErrRange", Rows.laid_strconv_ErrRange), ("strconv.ErrSyntax", Rows.laid_strconv_ErrSyntax), ("unicode/utf8.first", Rows.laid_unicode_utf8_first)] W := hL
 rw [first_eq, accept_eq, pow_eq] at hL2
 have hU : U8Tabs W := utf8Tabs_of_readsT (U8Types.of196 Tryz.laysValid) ⟨by kernel_rfl, by kernel_rfl, by kernel_rfl, by kernel_rfl, by kernel_rfl, by kernel_rfl, by kernel_rfl⟩ (laidMet.reads hL2 (by simp)) (laidMet.reads hL2 (by simp))
 have hP : TabIs Tryz.prog W "internal/strconv.uint64pow10" .u64 pow10Tab := tabIs_of_head (g := 6) (by kernel_rfl) (by kernel_rfl) (t := 249) Tryz.underlying249 Tryz.underlying224 (by kernel_rfl) (by kernel_rfl) hL2.tail.tail
 obtain ⟨a1, s1, hv1, _⟩ := laid_sentinel (g := 5) hL2.tail.tail.tail.tail (by kernel_rfl) (by kernel_rfl) Tryz.underlying80 row_errs Tryz.underlying254 Tryz.underlying256 rfl rfl Tryz.underlying9 (by kernel_rfl) (by kernel_rfl)
 obtain ⟨a2, s2, hv2, _⟩ := laid_sentinel (g := 4) hL2.tail.tail.tail.tail.tail (by kernel_rfl) (by kernel_rfl) Tryz.underlying80 row_errs Tryz.underlying254 Tryz.underlying256 rfl rfl Tryz.underlying9 (by kernel_rfl) (by kernel_rfl)
 exact ⟨fun w' hb => ⟨fun c hc => cell_old hb (hU.1 c hc), fun i hi => ⟨cell_old hb (hU.2 i hi).1, cell_old hb (hU.2 i hi).2⟩⟩, tabBelow_of_tabIs hP, ⟨_, _, fun w' hb => var_old hb hv2⟩, ⟨_, _, fun w' hb => var_old hb hv1⟩⟩
/-- What the walks ask for. -/
theorem mlibs_of (W : World) (hs : W.ShapedOpen Tryz.prog) (h : laidMetH Tryz.prog Rows.manifestReadsUptoRow.laid W) : MLibs W.heap.size W := by
 obtain ⟨h1, h2⟩ := laid_both W h
 exact ⟨libs_of W h1, fun w' hb => by
  obtain ⟨m, hm⟩ := maxW_of hs
  exact ⟨m, cell_old hb hm⟩, fun w' hb => cell_old hb (handle_of W h2)⟩
/-- A world that meets the condition: the handle, then the plain data laid. -/
noncomputable def mWorld0 (os : Os) : World :=
 let w0 := World.holding Tryz.prog os ⟨#[], #[], []⟩
 { w0 with heap := w0.heap.modify 0 fun
   | .cells _ t frozen => .cells #[.iface 177 (.agg #[.pointer (some ⟨9, 80, none⟩)])] t frozen
   | o => o }
noncomputable def mWorld (os : Os) : World := (mWorld0 os).layVars Tryz.prog mPlain
theorem mWorld_plain (os : Os) : laidMet Tryz.prog mPlain (mWorld os) := by
 have e1 : (mPlain.filter fun x => (mPlain.map (·.1)).contains x.1) = mPlain := List.filter_eq_self.2 fun x hx => List.contains_iff_mem.2 (List.mem_map.2 ⟨x, hx, rfl⟩)
 have e2 : (mPlain.filter fun x => !(mPlain.map (·.1)).contains x.1) = [] := List.filter_eq_nil_iff.2 fun x hx => by rw [List.contains_iff_mem.2 (List.mem_map.2 ⟨x, hx, rfl⟩)]; simp
 exact laidMet_layVars (w0 := mWorld0 os) (mPlain.map (·.1)) [] (by rw [e1]; rfl) (by rw [e1]; kernel_rfl) (by rw [e1]; kernel_rfl) (by rw [e2]; exact LaidIn.none)
theorem mWorld_met (os : Os) (args : Array Value) : laidMetH Tryz.prog Rows.manifestReadsUptoRow.laid ((mWorld os).forCall (fun _ _ => 0) ⟨#[], args, []⟩).memory :=
 laidMetH_of_parts (show laidMet Tryz.prog mPlain _ from (mWorld_plain os).of_heap (by simp [World.memory, World.forCall, Input.heap])) (by kernel_rfl)
theorem mWorld_os (os : Os) : (mWorld os).os = os := World.layVars_os _ _ _
end Go.Proofs.YtlhicfpmlncomaaGreatDoor

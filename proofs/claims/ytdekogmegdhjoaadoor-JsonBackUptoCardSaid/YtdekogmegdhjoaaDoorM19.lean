/-
  Layer 6: the document's Bare, walked.
  Layer 6: an object's members, in plain words. No program is named here.
  Layer 6, plain law: what is kept of a value that is cut. No program is named here.
-/
import Derived.Test.YtdekogmegdhjoaaDoorM17
import Derived.Test.YtdekogmegdhjoaaDoorM04
import Derived.Test.YtdekogmegdhjoaaDoorM18
import Derived.Test.YtdekogmegdhjoaaDoorM15
import Derived.Test.YtdekogmegdhjoaaDoorM16
namespace Go.Proofs.YtdekogmegdhjoaaDoor
open Go.RowKit
set_option linter.unusedSimpArgs false

theorem vlL_1 {k n n' : Int} {t : ByteArray} {a b : Value} : spl (vlL k n t a b) 1 [.int .i64 n'] = vlL k n' t a b := rfl
theorem vlL_2 {k n : Int} {t t' : ByteArray} {a b : Value} : spl (vlL k n t a b) 2 [.string t'] = vlL k n t' a b := rfl

set_option maxRecDepth 20000 in
set_option maxHeartbeats 12800000 in
theorem rbare_any (N : Nat) : ∀ (v : JV) (cs : List Value) (w : World), SizeOf.sizeOf v ≤ N → VRd w (· < w.heap.size) v cs → JSm v →
    Calls Tryd.prog 23 #[.agg cs.toArray] w fun e w' => ∃ cs' es', e = .returned (.agg cs'.toArray) ∧ VT (jBare v) cs' es' ∧ Fr [] w w' es' := by
  induction N with
  | zero => intro v _ _ h; cases v; simp only [JV.mk.sizeOf_spec] at h; omega
  | succ N ih =>
    intro v cs w hN hv hsm
    obtain ⟨k, n, t, ns, ks⟩ := v
    rw [VRd] at hv
    obtain ⟨An, nn, cn, Ak, nk, ck, xk, hcn, hck, rfl, hrn, hrk, hvk⟩ := hv
    rw [JSm] at hsm
    obtain ⟨hs1, hs2, hs3⟩ := hsm
    have hnn : ns.length = nn := by have := hrn.len; simpa using this
    have hnk : ks.length = nk := by have := hrk.len; rw [hvk.len] at this; omega
    rw [hnn] at hs1
    rw [hnk] at hs2
    replace hnn := box hnn
    replace hnk := box hnk
    replace hvk := box hvk
    have hF0 := Fr.nil w
    by_cases hk3 : k = 3
    · subst hk3
      have hjb : Box (jBare (.mk 3 n t ns ks) = .mk 3 n [] [] []) := box (by rw [jBare]; rfl)
      go_enter Tryd.func23, Tryd.ntmps23
      go_wp2_with (first | ((with_reducible refine lst (by with_unfolding_all rfl) (wp_fbox hF0 (cs := (vlL 3 n ⟨t.toArray⟩ (.slice An nn cn) (.slice Ak nk ck))) rfl (by with_unfolding_all rfl) (by with_unfolding_all rfl) ?_)); intro w1 g1 hF1 hz1) | ((with_reducible refine lst (by with_unfolding_all rfl) (wp_falloc hF1 (cs := vl0) (z := .agg (List.toArray (vl0))) rfl (by kernel_rfl) (by with_unfolding_all rfl) ?_)); intro w2 g2 hF2 hz2) | (with_reducible refine lst (by with_unfolding_all rfl) (wp_fld1 hF2 Tryd.underlying3 rfl (by with_unfolding_all exact ⟨_, rfl, rfl⟩) rfl ?_)) | (with_reducible refine lst (by with_unfolding_all rfl) (wp_fbuild Tryd.underlying33 (z := .agg (List.toArray vl0)) (by kernel_rfl) (pl := vlP) (by kernel_rfl) (cs := (vlL 3 0 ⟨#[]⟩ (.slice none 0 0) (.slice none 0 0))) rfl (vs := [(0, .int .i64 (3))]) (by with_unfolding_all rfl) (by with_unfolding_all rfl) ?_)) | ((with_reducible refine lst (by with_unfolding_all rfl) (wp_falloc hF2 (cs := vl0) (z := .agg (List.toArray (vl0))) rfl (by kernel_rfl) (by with_unfolding_all rfl) ?_)); intro w3 g3 hF3 hz3) | ((with_reducible refine lst (by with_unfolding_all rfl) (wp_fstA0 hF3 (by with_unfolding_all exact ⟨_, _, rfl, rfl, rfl⟩) (by rw [vlL_len]; kernel_rfl) vlL_one vlL_fit vlL_spl ?_)); intro w4 hF4 hz4) | (with_reducible refine lst (by with_unfolding_all rfl) (wp_fld2 hF4 Tryd.underlying3 rfl (by with_unfolding_all exact ⟨_, rfl, rfl⟩) rfl ?_)) | (with_reducible refine lst (by with_unfolding_all rfl) (wp_fld2 hF4 Tryd.underlying3 rfl (by with_unfolding_all exact ⟨_, rfl, rfl⟩) rfl ?_)) | ((with_reducible refine lst (by with_unfolding_all rfl) (wp_fst0 hF4 (by with_unfolding_all exact ⟨_, _, rfl, rfl, rfl⟩) (by kernel_rfl) rfl rfl (by rw [vlL_len]; decide) vlL_1 ?_)); intro w5 hF5 hz5) | (with_reducible refine lst (by with_unfolding_all rfl) (wp_fld2 hF5 Tryd.underlying3 rfl (by with_unfolding_all exact ⟨_, rfl, rfl⟩) rfl ?_)) | (with_reducible refine lst (by with_unfolding_all rfl) (wp_fldA0 hF5 Tryd.underlying33 rfl (by with_unfolding_all exact ⟨_, rfl, rfl⟩) (ds := (vlL 3 n ⟨#[]⟩ (.slice none 0 0) (.slice none 0 0))) (by rw [vlL_len]; kernel_rfl) (take_all _) ?_)) | ((with_reducible refine lst (by with_unfolding_all rfl) (wp_fstA1 hF5 (by with_unfolding_all exact ⟨_, _, rfl, rfl, rfl⟩) (by rw [vlL_len]; kernel_rfl) vlL_one vlL_fit vlL_spl ?_)); intro w6 hF6 hz6))
      exact bodyPost_ret (results_cellF rfl _ hF6 (i := 1) rfl rfl Tryd.underlying33 rfl (by rw [vlL_len]; kernel_rfl)) rfl (by
        rw [hjb.out]
        have h9 := (hF6.tail.tail.tail.pushNone 5).pushNone 1
        first | exact ⟨_, _, rfl, VT.leaf, h9⟩ | exact ⟨_, rfl, _, VT.leaf, h9⟩)
    by_cases hk4 : k = 4
    · subst hk4
      have hjb : Box (jBare (.mk 4 n t ns ks) = .mk 4 0 t [] []) := box (by rw [jBare]; rfl)
      go_enter Tryd.func23, Tryd.ntmps23
      go_wp2_with (first | ((with_reducible refine lst (by with_unfolding_all rfl) (wp_fbox hF0 (cs := (vlL 4 n ⟨t.toArray⟩ (.slice An nn cn) (.slice Ak nk ck))) rfl (by with_unfolding_all rfl) (by with_unfolding_all rfl) ?_)); intro w1 g1 hF1 hz1) | ((with_reducible refine lst (by with_unfolding_all rfl) (wp_falloc hF1 (cs := vl0) (z := .agg (List.toArray (vl0))) rfl (by kernel_rfl) (by with_unfolding_all rfl) ?_)); intro w2 g2 hF2 hz2) | (with_reducible refine lst (by with_unfolding_all rfl) (wp_fld1 hF2 Tryd.underlying3 rfl (by with_unfolding_all exact ⟨_, rfl, rfl⟩) rfl ?_)) | (with_reducible refine lst (by with_unfolding_all rfl) (wp_fbuild Tryd.underlying33 (z := .agg (List.toArray vl0)) (by kernel_rfl) (pl := vlP) (by kernel_rfl) (cs := (vlL 4 0 ⟨#[]⟩ (.slice none 0 0) (.slice none 0 0))) rfl (vs := [(0, .int .i64 (4))]) (by with_unfolding_all rfl) (by with_unfolding_all rfl) ?_)) | ((with_reducible refine lst (by with_unfolding_all rfl) (wp_falloc hF2 (cs := vl0) (z := .agg (List.toArray (vl0))) rfl (by kernel_rfl) (by with_unfolding_all rfl) ?_)); intro w3 g3 hF3 hz3) | ((with_reducible refine lst (by with_unfolding_all rfl) (wp_fstA0 hF3 (by with_unfolding_all exact ⟨_, _, rfl, rfl, rfl⟩) (by rw [vlL_len]; kernel_rfl) vlL_one vlL_fit vlL_spl ?_)); intro w4 hF4 hz4) | (with_reducible refine lst (by with_unfolding_all rfl) (wp_fld2 hF4 Tryd.underlying3 rfl (by with_unfolding_all exact ⟨_, rfl, rfl⟩) rfl ?_)) | (with_reducible refine lst (by with_unfolding_all rfl) (wp_fld2 hF4 Tryd.underlying3 rfl (by with_unfolding_all exact ⟨_, rfl, rfl⟩) rfl ?_)) | (with_reducible refine lst (by with_unfolding_all rfl) (wp_fld2 hF4 Tryd.underlying9 rfl (by with_unfolding_all exact ⟨_, rfl, rfl⟩) rfl ?_)) | ((with_reducible refine lst (by with_unfolding_all rfl) (wp_fst0 hF4 (by with_unfolding_all exact ⟨_, _, rfl, rfl, rfl⟩) (by kernel_rfl) rfl rfl (by rw [vlL_len]; decide) vlL_2 ?_)); intro w5 hF5 hz5) | (with_reducible refine lst (by with_unfolding_all rfl) (wp_fld2 hF5 Tryd.underlying3 rfl (by with_unfolding_all exact ⟨_, rfl, rfl⟩) rfl ?_)) | (with_reducible refine lst (by with_unfolding_all rfl) (wp_fldA0 hF5 Tryd.underlying33 rfl (by with_unfolding_all exact ⟨_, rfl, rfl⟩) (ds := (vlL 4 0 ⟨t.toArray⟩ (.slice none 0 0) (.slice none 0 0))) (by rw [vlL_len]; kernel_rfl) (take_all _) ?_)) | ((with_reducible refine lst (by with_unfolding_all rfl) (wp_fstA1 hF5 (by with_unfolding_all exact ⟨_, _, rfl, rfl, rfl⟩) (by rw [vlL_len]; kernel_rfl) vlL_one vlL_fit vlL_spl ?_)); intro w6 hF6 hz6))
      exact bodyPost_ret (results_cellF rfl _ hF6 (i := 1) rfl rfl Tryd.underlying33 rfl (by rw [vlL_len]; kernel_rfl)) rfl (by
        rw [hjb.out]
        have h9 := (hF6.tail.tail.tail.pushNone 5).pushNone 1
        first | exact ⟨_, _, rfl, VT.leaf, h9⟩ | exact ⟨_, rfl, _, VT.leaf, h9⟩)
    have d3 : (k == 3) = false := by rw [beq_eq_false_iff_ne]; assumption
    have d4 : (k == 4) = false := by rw [beq_eq_false_iff_ne]; assumption
    by_cases hk5 : 5 ≤ k
    rotate_left
    · have d5 : decide ((5 : Int) ≤ k) = false := decide_eq_false hk5
      have d6 : (k == 6) = false := by rw [beq_eq_false_iff_ne]; omega
      have hjb : Box (jBare (.mk k n t ns ks) = .mk k 0 [] [] []) := box (by rw [jBare, if_neg hk3, if_neg hk4, if_neg (show ¬ k = 6 by omega), if_neg hk5])
      replace hk3 := box hk3
      replace hk4 := box hk4
      replace hk5 := box hk5
      go_enter Tryd.func23, Tryd.ntmps23
      go_wp2_with (first | ((with_reducible refine lst (by with_unfolding_all rfl) (wp_fbox hF0 (cs := (vlL k n ⟨t.toArray⟩ (.slice An nn cn) (.slice Ak nk ck))) rfl (by with_unfolding_all rfl) (by with_unfolding_all rfl) ?_)); intro w1 g1 hF1 hz1) | ((with_reducible refine lst (by with_unfolding_all rfl) (wp_falloc hF1 (cs := vl0) (z := .agg (List.toArray (vl0))) rfl (by kernel_rfl) (by with_unfolding_all rfl) ?_)); intro w2 g2 hF2 hz2) | (with_reducible refine lst (by with_unfolding_all rfl) (wp_fld1 hF2 Tryd.underlying3 rfl (by with_unfolding_all exact ⟨_, rfl, rfl⟩) rfl ?_)) | (with_reducible refine lst (by with_unfolding_all rfl) (wp_fbuild Tryd.underlying33 (z := .agg (List.toArray vl0)) (by kernel_rfl) (pl := vlP) (by kernel_rfl) (cs := (vlL k 0 ⟨#[]⟩ (.slice none 0 0) (.slice none 0 0))) rfl (vs := [(0, .int .i64 (k))]) (by with_unfolding_all rfl) (by with_unfolding_all rfl) ?_)) | ((with_reducible refine lst (by with_unfolding_all rfl) (wp_falloc hF2 (cs := vl0) (z := .agg (List.toArray (vl0))) rfl (by kernel_rfl) (by with_unfolding_all rfl) ?_)); intro w3 g3 hF3 hz3) | ((with_reducible refine lst (by with_unfolding_all rfl) (wp_fstA0 hF3 (by with_unfolding_all exact ⟨_, _, rfl, rfl, rfl⟩) (by rw [vlL_len]; kernel_rfl) vlL_one vlL_fit vlL_spl ?_)); intro w4 hF4 hz4) | (with_reducible refine lst (by with_unfolding_all rfl) (wp_fld2 hF4 Tryd.underlying3 rfl (by with_unfolding_all exact ⟨_, rfl, rfl⟩) rfl ?_)) | (with_reducible refine lst (by with_unfolding_all rfl) (wp_fldA0 hF4 Tryd.underlying33 rfl (by with_unfolding_all exact ⟨_, rfl, rfl⟩) (ds := (vlL k 0 ⟨#[]⟩ (.slice none 0 0) (.slice none 0 0))) (by rw [vlL_len]; kernel_rfl) (take_all _) ?_)) | ((with_reducible refine lst (by with_unfolding_all rfl) (wp_fstA1 hF4 (by with_unfolding_all exact ⟨_, _, rfl, rfl, rfl⟩) (by rw [vlL_len]; kernel_rfl) vlL_one vlL_fit vlL_spl ?_)); intro w6 hF6 hz6))
      exact bodyPost_ret (results_cellF rfl _ hF6 (i := 1) rfl rfl Tryd.underlying33 rfl (by rw [vlL_len]; kernel_rfl)) rfl (by
        rw [hjb.out]
        have h9 := (hF6.tail.tail.tail.pushNone 5).pushNone 1
        first | exact ⟨_, _, rfl, VT.leaf, h9⟩ | exact ⟨_, rfl, _, VT.leaf, h9⟩)
    have d5 : decide ((5 : Int) ≤ k) = true := decide_eq_true hk5
    replace hk3 := box hk3
    replace hk4 := box hk4
    replace hk5 := box hk5
    go_enter Tryd.func23, Tryd.ntmps23
    go_wp2_with (first | ((with_reducible refine lst (by with_unfolding_all rfl) (wp_fbox hF0 (cs := (vlL k n ⟨t.toArray⟩ (.slice An nn cn) (.slice Ak nk ck))) rfl (by with_unfolding_all rfl) (by with_unfolding_all rfl) ?_)); intro w1 g1 hF1 hz1) | ((with_reducible refine lst (by with_unfolding_all rfl) (wp_falloc hF1 (cs := vl0) (z := .agg (List.toArray (vl0))) rfl (by kernel_rfl) (by with_unfolding_all rfl) ?_)); intro w2 g2 hF2 hz2) | (with_reducible refine lst (by with_unfolding_all rfl) (wp_fld1 hF2 Tryd.underlying3 rfl (by with_unfolding_all exact ⟨_, rfl, rfl⟩) rfl ?_)) | (with_reducible refine lst (by with_unfolding_all rfl) (wp_fbuild Tryd.underlying33 (z := .agg (List.toArray vl0)) (by kernel_rfl) (pl := vlP) (by kernel_rfl) (cs := (vlL k 0 ⟨#[]⟩ (.slice none 0 0) (.slice none 0 0))) rfl (vs := [(0, .int .i64 (k))]) (by with_unfolding_all rfl) (by with_unfolding_all rfl) ?_)) | ((with_reducible refine lst (by with_unfolding_all rfl) (wp_falloc hF2 (cs := vl0) (z := .agg (List.toArray (vl0))) rfl (by kernel_rfl) (by with_unfolding_all rfl) ?_)); intro w3 g3 hF3 hz3) | ((with_reducible refine lst (by with_unfolding_all rfl) (wp_fstA0 hF3 (by with_unfolding_all exact ⟨_, _, rfl, rfl, rfl⟩) (by rw [vlL_len]; kernel_rfl) vlL_one vlL_fit vlL_spl ?_)); intro w4 hF4 hz4) | (with_reducible refine lst (by with_unfolding_all rfl) (wp_fld2 hF4 Tryd.underlying3 rfl (by with_unfolding_all exact ⟨_, rfl, rfl⟩) rfl ?_)))
    have hF5 := ((hF4.none_ w.heap.size 9 1).none_ w.heap.size 33 5).picks [2, 0, 1, 3, 4] (fs := (.blk g3 33 (vlL k 0 ⟨#[]⟩ (.slice none 0 0) (.slice none 0 0)) :: .own w.heap.size 33 5 (.slice none 0 0) 0 [] :: .own w.heap.size 9 1 (.slice none 0 0) 0 ((ns.take 0).map strv) :: .blk g2 33 vl0 :: .blk g1 33 (vlL k n ⟨t.toArray⟩ (.slice An nn cn) (.slice Ak nk ck)) :: [])) rfl (by decide)
    clear hF0 hF1 hF2 hF3 hF4
    go_loopg [4] nk (fun gk s wr => ∃ (i : Nat) (Ai : Option Addr) (ci' : Nat) (xs : List Value) (TE : List Ent), i ≤ nk ∧ Box (gk = nk - i) ∧ s = .int .i64 (i : Int) ∧ i ≤ ci' ∧ Box (VTL ((ks.take i).map jBare) xs TE) ∧ Fr [] w wr (.blk g3 33 (vlL k 0 ⟨#[]⟩ (.slice none 0 0) (.slice Ai i ci')) :: .own w.heap.size 33 5 (.slice Ai i ci') i xs :: .own w.heap.size 9 1 (.slice none 0 0) 0 ((ns.take 0).map strv) :: .blk g2 33 vl0 :: .blk g1 33 (vlL k n ⟨t.toArray⟩ (.slice An nn cn) (.slice Ak nk ck)) :: TE))
    case atStart => exact ⟨0, none, 0, [], [], by omega, box rfl, rfl, by omega, box VTL.nil, hF5⟩
    case round =>
      clear hF5
      obtain ⟨i, Ai, ci', xs, TE, hi, hk, rfl, hci', hT, hF⟩ := hrel
      have hkf : Box (gk = nk - i) := hk
      clear hk
      by_cases hlt : i < nk
      · obtain ⟨vi, hvi⟩ : ∃ vi, ks[i]? = some vi := ⟨ks[i]'(by rw [hnk.out]; exact hlt), by simp⟩
        obtain ⟨ci, hci, hvri⟩ := hvk.out.at hvi
        have hcil := box hvri.len
        replace hci := box hci
        have hsi := hs3.at hvi
        have hsz : SizeOf.sizeOf vi ≤ N := by have := JV.size_kid (k := k) (n := n) (t := t) (ns := ns) hvi; omega
        have ihc := box (fun w' (hb : Below w.heap.size w w') => ih vi ci w' hsz (hvri.on hb) hsi)
        have hT2 : Box (∀ c e, VT (jBare vi) c e → VTL ((ks.take (i + 1)).map jBare) (xs ++ c) (TE ++ e)) := box (fun c e h => by
          rw [List.take_add_one, hvi, List.map_append]
          exact hT.out.snoc h)
        replace hvi := box hvi
        replace hvri := box hvri
        replace hsi := box hsi
        replace hs3 := box hs3
        replace hsz := box hsz
        replace hN := box hN
        go_upto_region 10 with (first | (with_reducible refine lst (by with_unfolding_all rfl) (wp_fld4 hF Tryd.underlying31 rfl (by with_unfolding_all exact ⟨_, rfl, rfl⟩) rfl ?_)))
        have hFd := hF.drew
        refine wp_region_held (S := fun w' => w'.heap[g1]? = some (.cells (List.toArray (vlL k n ⟨t.toArray⟩ (.slice An nn cn) (.slice Ak nk ck))) 33 (0, 0)) ∧ Rd w' (· < w.heap.size) Ak 5 nk xk) (by kernel_rfl) ?_
        change wpAnyH _ _ _ _ _ _ _ _ (World.drew _)
        refine tkp 0 ⟨hFd.blk (i := 4) rfl, hrk.below hFd.below⟩ ?_
        (try simp only [Act.put, List.setIfInBounds_toArray, List.set_cons_zero, List.set_cons_succ])
        refine tkp 2 ⟨hFd.blk (i := 4) rfl, hrk.below hFd.below⟩ ?_
        (try simp only [Act.put, List.setIfInBounds_toArray, List.set_cons_zero, List.set_cons_succ])
        refine tky 3 (y := yi_fld (by with_unfolding_all rfl) (fun _ h => h.1) Tryd.underlying31 rfl (by with_unfolding_all exact ⟨_, rfl, rfl⟩) rfl) (s := ⟨hFd.blk (i := 4) rfl, hrk.below hFd.below⟩) (h := ?_)
        (try simp only [Act.put, List.setIfInBounds_toArray, List.set_cons_zero, List.set_cons_succ])
        refine tkp 4 ⟨hFd.blk (i := 4) rfl, hrk.below hFd.below⟩ ?_
        (try simp only [Act.put, List.setIfInBounds_toArray, List.set_cons_zero, List.set_cons_succ])
        refine tky 5 (y := yi_ix (by with_unfolding_all rfl) T_rvals (fun h => hrk.some_ h) (k := i) (by with_unfolding_all exact ⟨_, _, _, _, rfl, rfl, rfl⟩) rfl (by omega)) (s := ⟨hFd.blk (i := 4) rfl, hrk.below hFd.below⟩) (h := ?_)
        (try simp only [Act.put, List.setIfInBounds_toArray, List.set_cons_zero, List.set_cons_succ])
        refine tky 6 (y := yi_ldA (by with_unfolding_all rfl) (fun _ h => h.2) Tryd.underlying33 rfl (by with_unfolding_all exact ⟨_, rfl, rfl⟩) (ds := ci) (by rw [hcil.out]; kernel_rfl) (by rw [hcil.out]; exact hci.out)) (s := ⟨hFd.blk (i := 4) rfl, hrk.below hFd.below⟩) (h := ?_)
        (try simp only [Act.put, List.setIfInBounds_toArray, List.set_cons_zero, List.set_cons_succ])
        refine wpAnyH_ready (rs := [1, 7]) (by kernel_rfl) (by simp) ?_
        refine AllReadyH.cons (by simp only [List.getElem?_toArray, List.getElem?_cons_zero, List.getElem?_cons_succ]; rfl) (fun K hK => ?_) ?_
        · refine stp (by with_unfolding_all rfl) (wp_fld hFd (i := 0) rfl Tryd.underlying31 rfl (by with_unfolding_all exact ⟨_, rfl, rfl⟩) rfl ?_)
          refine hK.out _ _ (⟨hFd.blk (i := 4) rfl, hrk.below hFd.below⟩) (fun _ => ?_)
          clear hK K
          (try simp only [Act.put, List.setIfInBounds_toArray, List.set_cons_zero, List.set_cons_succ])
          refine rdy1 7 (fun K hK => ?_)
          refine stp (by with_unfolding_all rfl) (wp_call Tryd.func23 rfl (by with_unfolding_all rfl) (by with_unfolding_all rfl) (by with_unfolding_all rfl) (ihc.out _ hFd.below) ?_)
          rintro e w31 ⟨cs31, es31, rfl, hvt31, hv31⟩
          refine ⟨_, rfl, ?_⟩
          have hF31 := hFd.joinR hv31
          simp only [List.cons_append] at hF31
          have hTn31 := box (hT2.out _ _ hvt31)
          refine hK.out _ _ (⟨hF31.blk (i := 4) rfl, hrk.below hF31.below⟩) (fun _ => ?_)
          clear hK K
          (try simp only [Act.put, List.setIfInBounds_toArray, List.set_cons_zero, List.set_cons_succ])
          refine rdy1 8 (fun K hK => ?_)
          refine stp (by with_unfolding_all rfl) (wp_fbs1 T_rvals hF31 (by with_unfolding_all rfl) (ds := cs31) (by with_unfolding_all rfl) hvt31.len (by decide) ?_)
          intro w32 g32 hF32 hz32
          refine hK.out _ _ (⟨hF32.blk (i := 5) rfl, hrk.below hF32.below⟩) (fun _ => ?_)
          clear hK K
          (try simp only [Act.put, List.setIfInBounds_toArray, List.set_cons_zero, List.set_cons_succ])
          refine rdy1 9 (fun K hK => ?_)
          refine stp (by with_unfolding_all rfl) (wp_fappG T_rvals hF32 (i := 2) rfl (Nat.le_refl _) (hF32.rdOwn (i := 0) rfl) hvt31.one (by with_unfolding_all exact ⟨_, _, rfl, rfl, rfl⟩) (by unfold maxLen; omega) (by omega) ?_)
          intro v33 w33 hF33 hz33
          (try simp only [List.set_cons_zero, List.set_cons_succ] at hF33)
          obtain ⟨A33, c33, rfl, hc33⟩ := hF33.ownParts (i := 2) rfl
          refine hK.out _ _ (⟨hF33.blk (i := 5) rfl, hrk.below hF33.below⟩) (fun _ => ?_)
          clear hK K
          (try simp only [Act.put, List.setIfInBounds_toArray, List.set_cons_zero, List.set_cons_succ])
          refine tkp 10 ⟨hF33.blk (i := 5) rfl, hrk.below hF33.below⟩ ?_
          (try simp only [Act.put, List.setIfInBounds_toArray, List.set_cons_zero, List.set_cons_succ])
          refine rdy1 11 (fun K hK => ?_)
          refine stp (by with_unfolding_all rfl) (wp_fst hF33 (i := 1) rfl (v := .slice A33 (i + 1) c33) (by with_unfolding_all exact ⟨_, _, rfl, rfl, rfl⟩) (by kernel_rfl) rfl rfl (by rw [vlL_len]; decide) ?_)
          intro w34 hF34 hz34
          (try simp only [List.set_cons_zero, List.set_cons_succ] at hF34)
          rw [(vlL_4 (k := k) (n := 0) (t := ⟨#[]⟩) (a := .slice none 0 0) (b := .slice Ai i ci'))] at hF34
          refine hK.out _ _ (⟨hF34.blk (i := 5) rfl, hrk.below hF34.below⟩) (fun _ => ?_)
          clear hK K
          (try simp only [Act.put, List.setIfInBounds_toArray, List.set_cons_zero, List.set_cons_succ])
          refine wpAnyH_done (by kernel_rfl) ?_ _
          go_wp2_with fail
          go_roundg (nk - (i + 1))
          case rel => exact ⟨i + 1, A33, c33, _, _, by omega, box rfl, by go_num, hc33, hTn31, hF34.tail⟩
          case measure => have := hkf.out; omega
        refine AllReadyH.cons (by simp only [List.getElem?_toArray, List.getElem?_cons_zero, List.getElem?_cons_succ]; rfl) (fun K hK => ?_) ?_
        · refine stp (by with_unfolding_all rfl) (wp_call Tryd.func23 rfl (by with_unfolding_all rfl) (by with_unfolding_all rfl) (by with_unfolding_all rfl) (ihc.out _ hFd.below) ?_)
          rintro e w31 ⟨cs31, es31, rfl, hvt31, hv31⟩
          refine ⟨_, rfl, ?_⟩
          have hF31 := hFd.joinR hv31
          simp only [List.cons_append] at hF31
          have hTn31 := box (hT2.out _ _ hvt31)
          refine hK.out _ _ (⟨hF31.blk (i := 4) rfl, hrk.below hF31.below⟩) (fun _ => ?_)
          clear hK K
          (try simp only [Act.put, List.setIfInBounds_toArray, List.set_cons_zero, List.set_cons_succ])
          refine wpAnyH_ready (rs := [1, 8]) (by kernel_rfl) (by simp) ?_
          refine AllReadyH.cons (by simp only [List.getElem?_toArray, List.getElem?_cons_zero, List.getElem?_cons_succ]; rfl) (fun K hK => ?_) ?_
          · refine stp (by with_unfolding_all rfl) (wp_fld hF31 (i := 0) rfl Tryd.underlying31 rfl (by with_unfolding_all exact ⟨_, rfl, rfl⟩) rfl ?_)
            refine hK.out _ _ (⟨hF31.blk (i := 4) rfl, hrk.below hF31.below⟩) (fun _ => ?_)
            clear hK K
            (try simp only [Act.put, List.setIfInBounds_toArray, List.set_cons_zero, List.set_cons_succ])
            refine rdy1 8 (fun K hK => ?_)
            refine stp (by with_unfolding_all rfl) (wp_fbs1 T_rvals hF31 (by with_unfolding_all rfl) (ds := cs31) (by with_unfolding_all rfl) hvt31.len (by decide) ?_)
            intro w32 g32 hF32 hz32
            refine hK.out _ _ (⟨hF32.blk (i := 5) rfl, hrk.below hF32.below⟩) (fun _ => ?_)
            clear hK K
            (try simp only [Act.put, List.setIfInBounds_toArray, List.set_cons_zero, List.set_cons_succ])
            refine rdy1 9 (fun K hK => ?_)
            refine stp (by with_unfolding_all rfl) (wp_fappG T_rvals hF32 (i := 2) rfl (Nat.le_refl _) (hF32.rdOwn (i := 0) rfl) hvt31.one (by with_unfolding_all exact ⟨_, _, rfl, rfl, rfl⟩) (by unfold maxLen; omega) (by omega) ?_)
            intro v33 w33 hF33 hz33
            (try simp only [List.set_cons_zero, List.set_cons_succ] at hF33)
            obtain ⟨A33, c33, rfl, hc33⟩ := hF33.ownParts (i := 2) rfl
            refine hK.out _ _ (⟨hF33.blk (i := 5) rfl, hrk.below hF33.below⟩) (fun _ => ?_)
            clear hK K
            (try simp only [Act.put, List.setIfInBounds_toArray, List.set_cons_zero, List.set_cons_succ])
            refine tkp 10 ⟨hF33.blk (i := 5) rfl, hrk.below hF33.below⟩ ?_
            (try simp only [Act.put, List.setIfInBounds_toArray, List.set_cons_zero, List.set_cons_succ])
            refine rdy1 11 (fun K hK => ?_)
            refine stp (by with_unfolding_all rfl) (wp_fst hF33 (i := 1) rfl (v := .slice A33 (i + 1) c33) (by with_unfolding_all exact ⟨_, _, rfl, rfl, rfl⟩) (by kernel_rfl) rfl rfl (by rw [vlL_len]; decide) ?_)
            intro w34 hF34 hz34
            (try simp only [List.set_cons_zero, List.set_cons_succ] at hF34)
            rw [(vlL_4 (k := k) (n := 0) (t := ⟨#[]⟩) (a := .slice none 0 0) (b := .slice Ai i ci'))] at hF34
            refine hK.out _ _ (⟨hF34.blk (i := 5) rfl, hrk.below hF34.below⟩) (fun _ => ?_)
            clear hK K
            (try simp only [Act.put, List.setIfInBounds_toArray, List.set_cons_zero, List.set_cons_succ])
            refine wpAnyH_done (by kernel_rfl) ?_ _
            go_wp2_with fail
            go_roundg (nk - (i + 1))
            case rel => exact ⟨i + 1, A33, c33, _, _, by omega, box rfl, by go_num, hc33, hTn31, hF34.tail⟩
            case measure => have := hkf.out; omega
          refine AllReadyH.cons (by simp only [List.getElem?_toArray, List.getElem?_cons_zero, List.getElem?_cons_succ]; rfl) (fun K hK => ?_) ?_
          · refine stp (by with_unfolding_all rfl) (wp_fbs1 T_rvals hF31 (by with_unfolding_all rfl) (ds := cs31) (by with_unfolding_all rfl) hvt31.len (by decide) ?_)
            intro w32 g32 hF32 hz32
            refine hK.out _ _ (⟨hF32.blk (i := 5) rfl, hrk.below hF32.below⟩) (fun _ => ?_)
            clear hK K
            (try simp only [Act.put, List.setIfInBounds_toArray, List.set_cons_zero, List.set_cons_succ])
            refine rdy1 1 (fun K hK => ?_)
            refine stp (by with_unfolding_all rfl) (wp_fld hF32 (i := 1) rfl Tryd.underlying31 rfl (by with_unfolding_all exact ⟨_, rfl, rfl⟩) rfl ?_)
            refine hK.out _ _ (⟨hF32.blk (i := 5) rfl, hrk.below hF32.below⟩) (fun _ => ?_)
            clear hK K
            (try simp only [Act.put, List.setIfInBounds_toArray, List.set_cons_zero, List.set_cons_succ])
            refine rdy1 9 (fun K hK => ?_)
            refine stp (by with_unfolding_all rfl) (wp_fappG T_rvals hF32 (i := 2) rfl (Nat.le_refl _) (hF32.rdOwn (i := 0) rfl) hvt31.one (by with_unfolding_all exact ⟨_, _, rfl, rfl, rfl⟩) (by unfold maxLen; omega) (by omega) ?_)
            intro v33 w33 hF33 hz33
            (try simp only [List.set_cons_zero, List.set_cons_succ] at hF33)
            obtain ⟨A33, c33, rfl, hc33⟩ := hF33.ownParts (i := 2) rfl
            refine hK.out _ _ (⟨hF33.blk (i := 5) rfl, hrk.below hF33.below⟩) (fun _ => ?_)
            clear hK K
            (try simp only [Act.put, List.setIfInBounds_toArray, List.set_cons_zero, List.set_cons_succ])
            refine tkp 10 ⟨hF33.blk (i := 5) rfl, hrk.below hF33.below⟩ ?_
            (try simp only [Act.put, List.setIfInBounds_toArray, List.set_cons_zero, List.set_cons_succ])
            refine rdy1 11 (fun K hK => ?_)
            refine stp (by with_unfolding_all rfl) (wp_fst hF33 (i := 1) rfl (v := .slice A33 (i + 1) c33) (by with_unfolding_all exact ⟨_, _, rfl, rfl, rfl⟩) (by kernel_rfl) rfl rfl (by rw [vlL_len]; decide) ?_)
            intro w34 hF34 hz34
            (try simp only [List.set_cons_zero, List.set_cons_succ] at hF34)
            rw [(vlL_4 (k := k) (n := 0) (t := ⟨#[]⟩) (a := .slice none 0 0) (b := .slice Ai i ci'))] at hF34
            refine hK.out _ _ (⟨hF34.blk (i := 5) rfl, hrk.below hF34.below⟩) (fun _ => ?_)
            clear hK K
            (try simp only [Act.put, List.setIfInBounds_toArray, List.set_cons_zero, List.set_cons_succ])
            refine wpAnyH_done (by kernel_rfl) ?_ _
            go_wp2_with fail
            go_roundg (nk - (i + 1))
            case rel => exact ⟨i + 1, A33, c33, _, _, by omega, box rfl, by go_num, hc33, hTn31, hF34.tail⟩
            case measure => have := hkf.out; omega
          exact AllReadyH.nil
        exact AllReadyH.nil
      · obtain rfl : nk = i := by omega
        have hall : ks.take nk = ks := List.take_of_length_le (by rw [hnk.out]; exact Nat.le_refl _)
        rw [hall] at hT
        clear hall hlt hkf
        by_cases hk6 : k = 6
        · subst hk6
          have hjb : Box (jBare (.mk 6 n t ns ks) = .mk 6 0 [] ns (ks.map jBare)) := box (by rw [jBare, jBareL_map]; rfl)
          go_wp2_with (first | (with_reducible refine lst (by with_unfolding_all rfl) (wp_fld4 hF Tryd.underlying31 rfl (by with_unfolding_all exact ⟨_, rfl, rfl⟩) rfl ?_)) | (with_reducible refine lst (by with_unfolding_all rfl) (wp_fld4 hF Tryd.underlying3 rfl (by with_unfolding_all exact ⟨_, rfl, rfl⟩) rfl ?_)))
          go_loopg [5] nn (fun gk s wr => ∃ (j : Nat) (Aj : Option Addr) (cj : Nat), j ≤ nn ∧ Box (gk = nn - j) ∧ s = .int .i64 (j : Int) ∧ j ≤ cj ∧ Fr [] w wr (.blk g3 33 (vlL 6 0 ⟨#[]⟩ (.slice Aj j cj) (.slice Ai nk ci')) :: .own w.heap.size 33 5 (.slice Ai nk ci') nk xs :: .own w.heap.size 9 1 (.slice Aj j cj) j ((ns.take j).map strv) :: .blk g2 33 vl0 :: .blk g1 33 (vlL 6 n ⟨t.toArray⟩ (.slice An nn cn) (.slice Ak nk ck)) :: TE))
          case atStart => exact ⟨0, none, 0, by omega, box rfl, rfl, by omega, hF⟩
          case round =>
            clear hF
            obtain ⟨j, Aj, cj, hj, hk, rfl, hcj, hF⟩ := hrel
            have hkf : Box (_ = nn - j) := hk
            clear hk
            by_cases hlt : j < nn
            · obtain ⟨s, hs⟩ : ∃ s, ns[j]? = some s := ⟨ns[j]'(by rw [hnn.out]; exact hlt), by simp⟩
              have hss : Box ((ns.map strv)[j]? = some (.string ⟨s.toArray⟩)) := box (by rw [List.getElem?_map, hs]; rfl)
              have hsn : Box ((ns.take j).map strv ++ [.string ⟨s.toArray⟩] = (ns.take (j + 1)).map strv) := box (by rw [List.take_add_one, hs, List.map_append]; rfl)
              replace hs := box hs
              go_upto_region 15 with (first | (with_reducible refine lst (by with_unfolding_all rfl) (wp_fld4 hF Tryd.underlying24 rfl (by with_unfolding_all exact ⟨_, rfl, rfl⟩) rfl ?_)))
              have hFd := hF.drew
              refine wp_region_held (S := fun w' => w'.heap[g1]? = some (.cells (List.toArray (vlL 6 n ⟨t.toArray⟩ (.slice An nn cn) (.slice Ak nk ck))) 33 (0, 0)) ∧ Rd w' (· < w.heap.size) An 1 nn (ns.map strv)) (by kernel_rfl) ?_
              change wpAnyH _ _ _ _ _ _ _ _ (World.drew _)
              refine tkp 0 ⟨hFd.blk (i := 4) rfl, hrn.below hFd.below⟩ ?_
              (try simp only [Act.put, List.setIfInBounds_toArray, List.set_cons_zero, List.set_cons_succ])
              refine tkp 2 ⟨hFd.blk (i := 4) rfl, hrn.below hFd.below⟩ ?_
              (try simp only [Act.put, List.setIfInBounds_toArray, List.set_cons_zero, List.set_cons_succ])
              refine tky 3 (y := yi_fld (by with_unfolding_all rfl) (fun _ h => h.1) Tryd.underlying24 rfl (by with_unfolding_all exact ⟨_, rfl, rfl⟩) rfl) (s := ⟨hFd.blk (i := 4) rfl, hrn.below hFd.below⟩) (h := ?_)
              (try simp only [Act.put, List.setIfInBounds_toArray, List.set_cons_zero, List.set_cons_succ])
              refine tkp 4 ⟨hFd.blk (i := 4) rfl, hrn.below hFd.below⟩ ?_
              (try simp only [Act.put, List.setIfInBounds_toArray, List.set_cons_zero, List.set_cons_succ])
              refine tky 5 (y := yi_ix (by with_unfolding_all rfl) T_strs (fun h => hrn.some_ h) (k := j) (by with_unfolding_all exact ⟨_, _, _, _, rfl, rfl, rfl⟩) rfl (by omega)) (s := ⟨hFd.blk (i := 4) rfl, hrn.below hFd.below⟩) (h := ?_)
              (try simp only [Act.put, List.setIfInBounds_toArray, List.set_cons_zero, List.set_cons_succ])
              refine tky 6 (y := yi_ld (by with_unfolding_all rfl) (j := j * 1) (fun _ h => h.2) Tryd.underlying9 rfl (by with_unfolding_all exact ⟨_, rfl, rfl⟩) (by rw [Nat.mul_one]; exact hss.out)) (s := ⟨hFd.blk (i := 4) rfl, hrn.below hFd.below⟩) (h := ?_)
              (try simp only [Act.put, List.setIfInBounds_toArray, List.set_cons_zero, List.set_cons_succ])
              refine wpAnyH_ready (rs := [1, 7]) (by kernel_rfl) (by simp) ?_
              refine AllReadyH.cons (by simp only [List.getElem?_toArray, List.getElem?_cons_zero, List.getElem?_cons_succ]; rfl) (fun K hK => ?_) ?_
              · refine stp (by with_unfolding_all rfl) (wp_fld hFd (i := 0) rfl Tryd.underlying24 rfl (by with_unfolding_all exact ⟨_, rfl, rfl⟩) rfl ?_)
                refine hK.out _ _ (⟨hFd.blk (i := 4) rfl, hrn.below hFd.below⟩) (fun _ => ?_)
                clear hK K
                (try simp only [Act.put, List.setIfInBounds_toArray, List.set_cons_zero, List.set_cons_succ])
                refine rdy1 7 (fun K hK => ?_)
                refine stp (by with_unfolding_all rfl) (wp_fbsl T_strs hFd (vs := [.string ⟨s.toArray⟩]) (by with_unfolding_all rfl) (by with_unfolding_all rfl) (by with_unfolding_all rfl) (by decide) (by simp [Value.cells]) ?_)
                intro w31 g31 hF31 hz31
                refine hK.out _ _ (⟨hF31.blk (i := 5) rfl, hrn.below hF31.below⟩) (fun _ => ?_)
                clear hK K
                (try simp only [Act.put, List.setIfInBounds_toArray, List.set_cons_zero, List.set_cons_succ])
                refine rdy1 8 (fun K hK => ?_)
                refine stp (by with_unfolding_all rfl) (wp_fappG T_strs hF31 (i := 3) rfl (Nat.le_refl _) (hF31.rdOwn (i := 0) rfl) (by intro u hu; simp only [List.mem_singleton] at hu; subst hu; rfl) (by with_unfolding_all exact ⟨_, _, rfl, rfl, rfl⟩) (by unfold maxLen; omega) (by omega) ?_)
                intro v32 w32 hF32 hz32
                (try simp only [List.set_cons_zero, List.set_cons_succ] at hF32)
                obtain ⟨A32, c32, rfl, hc32⟩ := hF32.ownParts (i := 3) rfl
                refine hK.out _ _ (⟨hF32.blk (i := 5) rfl, hrn.below hF32.below⟩) (fun _ => ?_)
                clear hK K
                (try simp only [Act.put, List.setIfInBounds_toArray, List.set_cons_zero, List.set_cons_succ])
                refine tkp 9 ⟨hF32.blk (i := 5) rfl, hrn.below hF32.below⟩ ?_
                (try simp only [Act.put, List.setIfInBounds_toArray, List.set_cons_zero, List.set_cons_succ])
                refine rdy1 10 (fun K hK => ?_)
                refine stp (by with_unfolding_all rfl) (wp_fst hF32 (i := 1) rfl (v := .slice A32 (j + 1) c32) (by with_unfolding_all exact ⟨_, _, rfl, rfl, rfl⟩) (by kernel_rfl) rfl rfl (by rw [vlL_len]; decide) ?_)
                intro w33 hF33 hz33
                (try simp only [List.set_cons_zero, List.set_cons_succ] at hF33)
                rw [(vlL_3 (k := 6) (n := 0) (t := ⟨#[]⟩) (a := .slice Aj j cj) (b := .slice Ai nk ci'))] at hF33
                refine hK.out _ _ (⟨hF33.blk (i := 5) rfl, hrn.below hF33.below⟩) (fun _ => ?_)
                clear hK K
                (try simp only [Act.put, List.setIfInBounds_toArray, List.set_cons_zero, List.set_cons_succ])
                refine wpAnyH_done (by kernel_rfl) ?_ _
                go_wp2_with fail
                go_roundg (nn - (j + 1))
                case rel => exact ⟨j + 1, A32, c32, by omega, box rfl, by go_num, hc32, by have h5 := hF33.tail; rw [hsn.out] at h5; exact h5⟩
                case measure => have := hkf.out; omega
              refine AllReadyH.cons (by simp only [List.getElem?_toArray, List.getElem?_cons_zero, List.getElem?_cons_succ]; rfl) (fun K hK => ?_) ?_
              · refine stp (by with_unfolding_all rfl) (wp_fbsl T_strs hFd (vs := [.string ⟨s.toArray⟩]) (by with_unfolding_all rfl) (by with_unfolding_all rfl) (by with_unfolding_all rfl) (by decide) (by simp [Value.cells]) ?_)
                intro w31 g31 hF31 hz31
                refine hK.out _ _ (⟨hF31.blk (i := 5) rfl, hrn.below hF31.below⟩) (fun _ => ?_)
                clear hK K
                (try simp only [Act.put, List.setIfInBounds_toArray, List.set_cons_zero, List.set_cons_succ])
                refine rdy1 1 (fun K hK => ?_)
                refine stp (by with_unfolding_all rfl) (wp_fld hF31 (i := 1) rfl Tryd.underlying24 rfl (by with_unfolding_all exact ⟨_, rfl, rfl⟩) rfl ?_)
                refine hK.out _ _ (⟨hF31.blk (i := 5) rfl, hrn.below hF31.below⟩) (fun _ => ?_)
                clear hK K
                (try simp only [Act.put, List.setIfInBounds_toArray, List.set_cons_zero, List.set_cons_succ])
                refine rdy1 8 (fun K hK => ?_)
                refine stp (by with_unfolding_all rfl) (wp_fappG T_strs hF31 (i := 3) rfl (Nat.le_refl _) (hF31.rdOwn (i := 0) rfl) (by intro u hu; simp only [List.mem_singleton] at hu; subst hu; rfl) (by with_unfolding_all exact ⟨_, _, rfl, rfl, rfl⟩) (by unfold maxLen; omega) (by omega) ?_)
                intro v32 w32 hF32 hz32
                (try simp only [List.set_cons_zero, List.set_cons_succ] at hF32)
                obtain ⟨A32, c32, rfl, hc32⟩ := hF32.ownParts (i := 3) rfl
                refine hK.out _ _ (⟨hF32.blk (i := 5) rfl, hrn.below hF32.below⟩) (fun _ => ?_)
                clear hK K
                (try simp only [Act.put, List.setIfInBounds_toArray, List.set_cons_zero, List.set_cons_succ])
                refine tkp 9 ⟨hF32.blk (i := 5) rfl, hrn.below hF32.below⟩ ?_
                (try simp only [Act.put, List.setIfInBounds_toArray, List.set_cons_zero, List.set_cons_succ])
                refine rdy1 10 (fun K hK => ?_)
                refine stp (by with_unfolding_all rfl) (wp_fst hF32 (i := 1) rfl (v := .slice A32 (j + 1) c32) (by with_unfolding_all exact ⟨_, _, rfl, rfl, rfl⟩) (by kernel_rfl) rfl rfl (by rw [vlL_len]; decide) ?_)
                intro w33 hF33 hz33
                (try simp only [List.set_cons_zero, List.set_cons_succ] at hF33)
                rw [(vlL_3 (k := 6) (n := 0) (t := ⟨#[]⟩) (a := .slice Aj j cj) (b := .slice Ai nk ci'))] at hF33
                refine hK.out _ _ (⟨hF33.blk (i := 5) rfl, hrn.below hF33.below⟩) (fun _ => ?_)
                clear hK K
                (try simp only [Act.put, List.setIfInBounds_toArray, List.set_cons_zero, List.set_cons_succ])
                refine wpAnyH_done (by kernel_rfl) ?_ _
                go_wp2_with fail
                go_roundg (nn - (j + 1))
                case rel => exact ⟨j + 1, A32, c32, by omega, box rfl, by go_num, hc32, by have h5 := hF33.tail; rw [hsn.out] at h5; exact h5⟩
                case measure => have := hkf.out; omega
              exact AllReadyH.nil
            · obtain rfl : nn = j := by omega
              have hall : ns.take nn = ns := List.take_of_length_le (by rw [hnn.out]; exact Nat.le_refl _)
              rw [hall] at hF
              clear hall hlt hkf
              go_wp2_with (first | (with_reducible refine lst (by with_unfolding_all rfl) (wp_fld4 hF Tryd.underlying24 rfl (by with_unfolding_all exact ⟨_, rfl, rfl⟩) rfl ?_)) | (with_reducible refine lst (by with_unfolding_all rfl) (wp_fldA0 hF Tryd.underlying33 rfl (by with_unfolding_all exact ⟨_, rfl, rfl⟩) (ds := (vlL 6 0 ⟨#[]⟩ (.slice Aj nn cj) (.slice Ai nk ci'))) (by rw [vlL_len]; kernel_rfl) (take_all _) ?_)) | ((with_reducible refine lst (by with_unfolding_all rfl) (wp_fstA3 hF (by with_unfolding_all exact ⟨_, _, rfl, rfl, rfl⟩) (by rw [vlL_len]; kernel_rfl) vlL_one vlL_fit vlL_spl ?_)); intro w9 hF9 hz9))
              exact bodyPost_ret (results_cellF rfl _ hF9 (i := 3) rfl rfl Tryd.underlying33 rfl (by rw [vlL_len]; kernel_rfl)) rfl (by
                rw [hjb.out]
                refine ⟨_, _, rfl, VT.mk_ (ns := ns) hcj hci' hT.out, ?_⟩
                have h1 := hF9.toRd (i := 1) rfl
                simp only [List.set_cons_succ, List.set_cons_zero] at h1
                have h2 := h1.toRd (i := 2) rfl
                simp only [List.set_cons_succ, List.set_cons_zero] at h2
                refine (h2.sub (es' := .rd Ai 5 nk xs :: .rd Aj 1 nn ((ns).map strv) :: TE) ?_).perm (List.Perm.swap _ _ _)
                exact (((((List.Sublist.refl _).cons _).cons _).cons_cons _).cons_cons _).cons _)
        · have d6 : (k == 6) = false := by rw [beq_eq_false_iff_ne]; exact hk6
          have hjb : Box (jBare (.mk k n t ns ks) = .mk k 0 [] [] (ks.map jBare)) := box (by rw [jBare, jBareL_map, if_neg hk3.out, if_neg hk4.out, if_neg hk6, if_pos hk5.out])
          have hcj : 0 ≤ 0 := Nat.le_refl 0
          replace hk6 := box hk6
          go_wp2_with (first | (with_reducible refine lst (by with_unfolding_all rfl) (wp_fld4 hF Tryd.underlying31 rfl (by with_unfolding_all exact ⟨_, rfl, rfl⟩) rfl ?_)) | (with_reducible refine lst (by with_unfolding_all rfl) (wp_fld4 hF Tryd.underlying3 rfl (by with_unfolding_all exact ⟨_, rfl, rfl⟩) rfl ?_)) | (with_reducible refine lst (by with_unfolding_all rfl) (wp_fldA0 hF Tryd.underlying33 rfl (by with_unfolding_all exact ⟨_, rfl, rfl⟩) (ds := (vlL k 0 ⟨#[]⟩ (.slice none 0 0) (.slice Ai nk ci'))) (by rw [vlL_len]; kernel_rfl) (take_all _) ?_)) | ((with_reducible refine lst (by with_unfolding_all rfl) (wp_fstA3 hF (by with_unfolding_all exact ⟨_, _, rfl, rfl, rfl⟩) (by rw [vlL_len]; kernel_rfl) vlL_one vlL_fit vlL_spl ?_)); intro w9 hF9 hz9))
          exact bodyPost_ret (results_cellF rfl _ hF9 (i := 3) rfl rfl Tryd.underlying33 rfl (by rw [vlL_len]; kernel_rfl)) rfl (by
            rw [hjb.out]
            refine ⟨_, _, rfl, VT.mk_ (ns := []) hcj hci' hT.out, ?_⟩
            have h1 := hF9.toRd (i := 1) rfl
            simp only [List.set_cons_succ, List.set_cons_zero] at h1
            have h2 := h1.toRd (i := 2) rfl
            simp only [List.set_cons_succ, List.set_cons_zero] at h2
            refine (h2.sub (es' := .rd Ai 5 nk xs :: .rd none 1 0 (([]).map strv) :: TE) ?_).perm (List.Perm.swap _ _ _)
            exact (((((List.Sublist.refl _).cons _).cons _).cons_cons _).cons_cons _).cons _)

end Go.Proofs.YtdekogmegdhjoaaDoor

namespace Go.Proofs.YtdekogmegdhjoaaDoor
open Go.RowKit

def jFieldL (nm : List UInt8) : List (List UInt8) → List JV → Option JV
  | s :: ns, v :: ks => if s = nm then some v else jFieldL nm ns ks
  | _, _ => none
/-- A member of an object. -/
def jField (nm : List UInt8) : JV → Option JV
  | .mk k _ _ ns ks => if k = 6 then jFieldL nm ns ks else none
theorem jFieldL_here {nm : List UInt8} {ns : List (List UInt8)} {ks : List JV} {i : Nat} {v : JV} (hs : ns[i]? = some nm) (hv : ks[i]? = some v) : jFieldL nm (ns.drop i) (ks.drop i) = some v := by
  rw [List.drop_eq_getElem_cons (List.getElem?_eq_some_iff.1 hv).1, (List.getElem?_eq_some_iff.1 hv).2, List.drop_eq_getElem_cons (List.getElem?_eq_some_iff.1 hs).1, (List.getElem?_eq_some_iff.1 hs).2, jFieldL, if_pos rfl]
theorem jFieldL_out {nm : List UInt8} {ns : List (List UInt8)} {ks : List JV} {i : Nat} (h : ns.length ≤ i ∨ ks.length ≤ i) : jFieldL nm (ns.drop i) (ks.drop i) = none := by
  rcases h with h | h
  · rw [List.drop_of_length_le h, jFieldL]; rintro _ _ _ _ h; cases h
  · rw [List.drop_of_length_le h, jFieldL]; rintro _ _ _ _ _ h; cases h
theorem jFieldL_next {nm s : List UInt8} {ns : List (List UInt8)} {ks : List JV} {i : Nat} (hs : ns[i]? = some s) (h : s ≠ nm ∨ ks.length ≤ i) : jFieldL nm (ns.drop i) (ks.drop i) = jFieldL nm (ns.drop (i + 1)) (ks.drop (i + 1)) := by
  rcases Nat.lt_or_ge i ks.length with hi | hi
  · have hv : ks[i]? = some ks[i] := List.getElem?_eq_getElem hi
    rw [List.drop_eq_getElem_cons hi, List.drop_eq_getElem_cons (List.getElem?_eq_some_iff.1 hs).1, (List.getElem?_eq_some_iff.1 hs).2, jFieldL, if_neg (h.resolve_right (by omega))]
  · rw [jFieldL_out (.inr hi), jFieldL_out (.inr (by omega))]
/-- What the two programs' Field tells. -/
def FieldPost (w : World) (B : Nat) (nm : List UInt8) (v : JV) (e : Ending) (w' : World) : Prop :=
  ∃ cs', e = .returned (.tuple #[.agg cs'.toArray, .bool (jField nm v).isSome]) ∧ VRd w (· < B) ((jField nm v).getD .null) cs' ∧ Below w.heap.size w w'
theorem null_rd (w : World) (S : Nat → Prop) : VRd w S .null vl0 := by
  unfold JV.null
  rw [VRd]
  refine ⟨none, 0, 0, none, 0, 0, [], Nat.le_refl _, Nat.le_refl _, rfl, Rd.nil _ _ _ _, Rd.nil _ _ _ _, by rw [VRdL]⟩
end Go.Proofs.YtdekogmegdhjoaaDoor

namespace Go.Proofs.YtdekogmegdhjoaaDoor

theorem jWL_cut {f : JV → Nat → JV × Nat} (hf : ∀ v m, jW (f v m).1 ≤ jW v) : ∀ (ks : List JV) (m : Nat), jWL (jCutL f ks m).1 ≤ jWL ks
  | [], m => Nat.le_refl _
  | v :: vs, 0 => by rw [jCutL, jWL]; omega
  | v :: vs, m + 1 => by
    rw [jCutL]
    have h1 := jWL_cut hf vs (f v m).2
    have h2 := hf v m
    simp only [jWL]
    omega
theorem jW_cut : ∀ (d : Nat) (v : JV) (m : Nat), jW (jCutN d v m).1 ≤ jW v
  | 0, .mk k n t ns ks, m => by rw [jCutN]; simp only [jW, jWL]; omega
  | d + 1, .mk k n t ns ks, m => by
    rw [jCutN]
    have := jWL_cut (jW_cut d) ks m
    simp only [jW]
    omega
theorem JIL_cut {f : JV → Nat → JV × Nat} (hf : ∀ v m, JI v → JI (f v m).1) : ∀ (ks : List JV) (m : Nat), JIL ks → JIL (jCutL f ks m).1
  | [], m, _ => by rw [jCutL, JIL]; trivial
  | v :: vs, 0, _ => by rw [jCutL, JIL]; trivial
  | v :: vs, m + 1, h => by
    rw [jCutL]
    rw [JIL] at h
    simp only [JIL]
    exact ⟨hf v m h.1, JIL_cut hf vs _ h.2⟩
theorem JI_cut : ∀ (d : Nat) (v : JV) (m : Nat), JI v → JI (jCutN d v m).1
  | 0, .mk k n t ns ks, m, h => by rw [jCutN]; rw [JI] at h; simp only [JI, JIL]; exact ⟨h.1, h.2.1, trivial⟩
  | d + 1, .mk k n t ns ks, m, h => by
    rw [jCutN]
    rw [JI] at h
    simp only [JI]
    exact ⟨h.1, h.2.1, JIL_cut (JI_cut d) ks m h.2.2⟩
/-- A value that is no deeper. -/
def JDep : Nat → JV → Prop
  | 0, .mk _ _ _ _ ks => ks = []
  | d + 1, .mk _ _ _ _ ks => ∀ v ∈ ks, JDep d v
theorem jCut_dep : ∀ {d D : Nat} {v : JV}, d ≤ D → JDep d v → jCut D v = v
  | 0, D, .mk k n t ns ks, _, h => by
    rw [JDep] at h
    subst h
    cases D <;> rw [jCut] <;> rfl
  | d + 1, 0, v, hD, _ => by omega
  | d + 1, D + 1, .mk k n t ns ks, hD, h => by
    rw [JDep] at h
    rw [jCut]
    congr 1
    have : ∀ v ∈ ks, jCut D v = v := fun v hv => jCut_dep (by omega) (h v hv)
    calc ks.map (jCut D) = ks.map id := List.map_congr_left this
      _ = ks := List.map_id _
theorem jCutL_mem {f : JV → Nat → JV × Nat} {Q : JV → Prop} (hf : ∀ v m, Q (f v m).1) : ∀ (ks : List JV) (m : Nat), ∀ v ∈ (jCutL f ks m).1, Q v
  | [], m, v, h => by cases h
  | _ :: _, 0, v, h => by cases h
  | x :: vs, m + 1, v, h => by
    rw [jCutL] at h
    rcases List.mem_cons.1 h with rfl | h
    · exact hf x m
    · exact jCutL_mem hf vs _ v h
theorem jCutN_dep : ∀ (d : Nat) (v : JV) (m : Nat), JDep d (jCutN d v m).1
  | 0, .mk k n t ns ks, m => by rw [jCutN, JDep]
  | d + 1, .mk k n t ns ks, m => by
    rw [jCutN, JDep]
    exact jCutL_mem (jCutN_dep d) ks m
theorem jCut_cut {d D : Nat} (h : d ≤ D) (v : JV) (m : Nat) : jCut D (jCutN d v m).1 = (jCutN d v m).1 := jCut_dep h (jCutN_dep d v m)
theorem JDep.up : ∀ {d : Nat} {v : JV}, JDep d v → JDep (d + 1) v
  | 0, .mk k n t ns ks, h => by rw [JDep] at h; subst h; rw [JDep]; intro v hv; cases hv
  | d + 1, .mk k n t ns ks, h => by
    rw [JDep] at h
    rw [JDep]
    exact fun v hv => (h v hv).up
theorem jFieldL_dep {nm : List UInt8} {Q : JV → Prop} : ∀ (ns : List (List UInt8)) (ks : List JV) (v : JV), jFieldL nm ns ks = some v → (∀ v ∈ ks, Q v) → Q v
  | [], ks, v, h, _ => by cases ks <;> cases h
  | _ :: _, [], v, h, _ => by cases h
  | s :: ns, x :: ks, v, h, hq => by
    rw [jFieldL] at h
    split at h
    · injection h with h; subst h; exact hq _ (by simp)
    · exact jFieldL_dep ns ks v h (fun v hv => hq v (by simp [hv]))
theorem JSmL_mem {ks : List JV} (h : JSmL ks) : ∀ v ∈ ks, JSm v := fun v hv => by
  obtain ⟨i, hi⟩ := List.mem_iff_getElem?.1 hv
  exact h.at hi
/-- A member is no deeper than its object. -/
theorem field_dep {nm : List UInt8} {d : Nat} {v : JV} (h : JDep d v) : JDep d ((jField nm v).getD .null) := by
  obtain ⟨k, n, t, ns, ks⟩ := v
  cases hj : jField nm (.mk k n t ns ks) with
  | none => cases d <;> (unfold JV.null; simp [JDep])
  | some x =>
    rw [jField] at hj
    split at hj
    · cases d with
      | zero => rw [JDep] at h; subst h; cases ns <;> cases hj
      | succ d => rw [JDep] at h; exact (jFieldL_dep ns ks x hj h).up
    · cases hj
theorem field_sm {nm : List UInt8} {v : JV} (h : JSm v) : JSm ((jField nm v).getD .null) := by
  obtain ⟨k, n, t, ns, ks⟩ := v
  cases hj : jField nm (.mk k n t ns ks) with
  | none => unfold JV.null; simp [JSm, JSmL]
  | some x =>
    rw [jField] at hj
    rw [JSm] at h
    split at hj
    · exact jFieldL_dep ns ks x hj (JSmL_mem h.2.2)
    · cases hj
end Go.Proofs.YtdekogmegdhjoaaDoor

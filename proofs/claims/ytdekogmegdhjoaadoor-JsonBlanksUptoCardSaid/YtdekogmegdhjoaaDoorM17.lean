/-
  Layer 6: the laws' cut, walked.
  Layer 6: the document's Bare, walked.
-/
import Derived.Test.YtdekogmegdhjoaaDoorM16
import Derived.Test.YtdekogmegdhjoaaDoorM03
namespace Go.Proofs.YtdekogmegdhjoaaDoor
open Go.RowKit
set_option linter.unusedSimpArgs false


set_option maxRecDepth 20000 in
set_option maxHeartbeats 12800000 in
theorem cut_any (d : Nat) : ∀ (v : JV) (cs : List Value) (w : World) (gl m B : Nat), d ≤ 1000 → m ≤ 100000 → VRd w (· < B) v cs → JSm v → B ≤ gl → B ≤ w.heap.size → w.heap[gl]? = some (.cells [Value.int .i64 (m : Int)].toArray 3 (0, 0)) →
    Calls Tryd.prog 17 #[.agg cs.toArray, .int .i64 (d : Int), .pointer (some ⟨gl, 0, none⟩)] w fun e w' => ∃ cs' es', e = .returned (.agg cs'.toArray) ∧ VC w B (jCutN d v m).1 cs' es' ∧ Fr [gl] w w' (.blk gl 3 [.int .i64 ((jCutN d v m).2 : Int)] :: es') := by
  induction d with
  | zero =>
    intro v cs w gl m B hd hm hv hsm hgl hB hh
    obtain ⟨k, n, t, ns, ks⟩ := v
    rw [VRd] at hv
    obtain ⟨An, nn, cn, Ak, nk, ck, xk, hcn, hck, rfl, hrn, hrk, hvk⟩ := hv
    rw [JSm] at hsm
    obtain ⟨hs1, hs2, hs3⟩ := hsm
    have hnk : ks.length = nk := by have := hrk.len; rw [hvk.len] at this; omega
    rw [hnk] at hs2
    replace hnk := box hnk
    replace hvk := box hvk
    replace hs1 := box hs1
    have hF0 := Fr.one hh
    clear hh
    go_enter Tryd.func17, Tryd.ntmps17
    go_upto_region 3 with (first | ((with_reducible refine lst (by with_unfolding_all rfl) (wp_fbox hF0 (cs := (vlL k n ⟨t.toArray⟩ (.slice An nn cn) (.slice Ak nk ck))) rfl (by with_unfolding_all rfl) (by with_unfolding_all rfl) ?_)); intro w1 g1 hF1 hz1) | ((with_reducible refine lst (by with_unfolding_all rfl) (wp_falloc hF1 (cs := vl0) (z := .agg (List.toArray (vl0))) rfl (by kernel_rfl) (by with_unfolding_all rfl) ?_)); intro w2 g2 hF2 hz2) | (with_reducible refine lst (by with_unfolding_all rfl) (wp_fldA1 hF2 Tryd.underlying33 rfl (by with_unfolding_all exact ⟨_, rfl, rfl⟩) (ds := (vlL k n ⟨t.toArray⟩ (.slice An nn cn) (.slice Ak nk ck))) (by rw [vlL_len]; kernel_rfl) (take_all _) ?_)) | ((with_reducible refine lst (by with_unfolding_all rfl) (wp_falloc hF2 (cs := vl0) (z := .agg (List.toArray (vl0))) rfl (by kernel_rfl) (by with_unfolding_all rfl) ?_)); intro w3 g3 hF3 hz3) | ((with_reducible refine lst (by with_unfolding_all rfl) (wp_fstA0 hF3 (by with_unfolding_all exact ⟨_, _, rfl, rfl, rfl⟩) (by rw [vlL_len]; kernel_rfl) vlL_one vlL_fit vlL_spl ?_)); intro w4 hF4 hz4) | ((with_reducible refine lst (by with_unfolding_all rfl) (wp_fst0 hF4 (by with_unfolding_all exact ⟨_, _, rfl, rfl, rfl⟩) (by kernel_rfl) rfl rfl (by rw [vlL_len]; decide) vlL_4 ?_)); intro w5 hF5 hz5))
    have hF6 := (hF5.none_ w.heap.size 33 5).picks [1, 0, 4, 2, 3] (fs := (.blk g3 33 (vlL k n ⟨t.toArray⟩ (.slice An nn cn) (.slice none 0 0)) :: .own w.heap.size 33 5 (.slice none 0 0) 0 [] :: .blk gl 3 [.int .i64 (m : Int)] :: .blk g2 33 vl0 :: .blk g1 33 (vlL k n ⟨t.toArray⟩ (.slice An nn cn) (.slice Ak nk ck)) :: [])) rfl (by decide)
    clear hF0 hF1 hF2 hF3 hF4 hF5
    go_wp2_with fail
    go_loopg [8] nk (fun gk s wr => ∃ (i : Nat) (Ai : Option Addr) (ci' : Nat) (xs : List Value) (ys : List JV) (TE : List Ent) (m' : Nat), i ≤ nk ∧ Box (gk = nk - i) ∧ s = .int .i64 (i : Int) ∧ i ≤ ci' ∧ i = 0 ∧ m' ≤ m ∧ Box (VCL w B ys xs TE) ∧ Box ((([] : List JV), m) = (ys ++ [], m')) ∧ Fr [gl] w wr (.blk g3 33 (vlL k n ⟨t.toArray⟩ (.slice An nn cn) (.slice Ai i ci')) :: .own w.heap.size 33 5 (.slice Ai i ci') i xs :: .blk gl 3 [.int .i64 (m' : Int)] :: .blk g2 33 vl0 :: .blk g1 33 (vlL k n ⟨t.toArray⟩ (.slice An nn cn) (.slice Ak nk ck)) :: TE))
    case atStart => exact ⟨0, none, 0, [], [], [], m, by omega, box rfl, rfl, by omega, rfl, Nat.le_refl _, box VCL.nil, box (by simp), hF6⟩
    case round =>
      clear hF6
      obtain ⟨i, Ai, ci', xs, ys, TE, m', hi, hk, rfl, hci', h0, hm', hT, hJ, hF⟩ := hrel
      have hkf : Box (gk = nk - i) := hk
      clear hk
      subst h0
      by_cases hz0 : 0 < nk
      · go_wp2_with (first | (with_reducible refine lst (by with_unfolding_all rfl) (wp_fld4 hF Tryd.underlying31 rfl (by with_unfolding_all exact ⟨_, rfl, rfl⟩) rfl ?_)) | (with_reducible refine lst (by with_unfolding_all rfl) (wp_fld2 hF Tryd.underlying3 rfl (by with_unfolding_all exact ⟨_, rfl, rfl⟩) rfl ?_)) | (with_reducible refine lst (by with_unfolding_all rfl) (wp_fldA0 hF Tryd.underlying33 rfl (by with_unfolding_all exact ⟨_, rfl, rfl⟩) (ds := (vlL k n ⟨t.toArray⟩ (.slice An nn cn) (.slice Ai 0 ci'))) (by rw [vlL_len]; kernel_rfl) (take_all _) ?_)) | ((with_reducible refine lst (by with_unfolding_all rfl) (wp_fstA3 hF (by with_unfolding_all exact ⟨_, _, rfl, rfl, rfl⟩) (by rw [vlL_len]; kernel_rfl) vlL_one vlL_fit vlL_spl ?_)); intro w9 hF9 hz9))
        exact bodyPost_ret (results_cellF rfl _ hF9 (i := 3) rfl rfl Tryd.underlying33 rfl (by rw [vlL_len]; kernel_rfl)) rfl (by
          have hjc : jCutN (0) (.mk k n t ns ks) m = (.mk k n t ns ys, m') := by have h := hJ.out; simp only [List.append_nil, Prod.mk.injEq] at h; rw [jCutN, ← h.1, ← h.2]
          rw [hjc]
          refine ⟨_, _, rfl, VC.mk_ hcn hci' hrn hT.out, ?_⟩
          have h1 := hF9.toRd (i := 1) rfl
          simp only [List.set_cons_succ, List.set_cons_zero] at h1
          refine (h1.sub (es' := .rd Ai 5 0 xs :: .blk gl 3 [.int .i64 (m' : Int)] :: TE) ?_).perm (List.Perm.swap _ _ _)
          exact (((List.Sublist.refl _).cons _).cons _).cons_cons _ |>.cons_cons _ |>.cons _)
      · go_wp2_with (first | (with_reducible refine lst (by with_unfolding_all rfl) (wp_fld4 hF Tryd.underlying31 rfl (by with_unfolding_all exact ⟨_, rfl, rfl⟩) rfl ?_)) | (with_reducible refine lst (by with_unfolding_all rfl) (wp_fld2 hF Tryd.underlying3 rfl (by with_unfolding_all exact ⟨_, rfl, rfl⟩) rfl ?_)) | (with_reducible refine lst (by with_unfolding_all rfl) (wp_fldA0 hF Tryd.underlying33 rfl (by with_unfolding_all exact ⟨_, rfl, rfl⟩) (ds := (vlL k n ⟨t.toArray⟩ (.slice An nn cn) (.slice Ai 0 ci'))) (by rw [vlL_len]; kernel_rfl) (take_all _) ?_)) | ((with_reducible refine lst (by with_unfolding_all rfl) (wp_fstA3 hF (by with_unfolding_all exact ⟨_, _, rfl, rfl, rfl⟩) (by rw [vlL_len]; kernel_rfl) vlL_one vlL_fit vlL_spl ?_)); intro w9 hF9 hz9))
        exact bodyPost_ret (results_cellF rfl _ hF9 (i := 3) rfl rfl Tryd.underlying33 rfl (by rw [vlL_len]; kernel_rfl)) rfl (by
          have hjc : jCutN (0) (.mk k n t ns ks) m = (.mk k n t ns ys, m') := by have h := hJ.out; simp only [List.append_nil, Prod.mk.injEq] at h; rw [jCutN, ← h.1, ← h.2]
          rw [hjc]
          refine ⟨_, _, rfl, VC.mk_ hcn hci' hrn hT.out, ?_⟩
          have h1 := hF9.toRd (i := 1) rfl
          simp only [List.set_cons_succ, List.set_cons_zero] at h1
          refine (h1.sub (es' := .rd Ai 5 0 xs :: .blk gl 3 [.int .i64 (m' : Int)] :: TE) ?_).perm (List.Perm.swap _ _ _)
          exact (((List.Sublist.refl _).cons _).cons _).cons_cons _ |>.cons_cons _ |>.cons _)
  | succ d ih =>
    intro v cs w gl m B hd hm hv hsm hgl hB hh
    obtain ⟨k, n, t, ns, ks⟩ := v
    rw [VRd] at hv
    obtain ⟨An, nn, cn, Ak, nk, ck, xk, hcn, hck, rfl, hrn, hrk, hvk⟩ := hv
    rw [JSm] at hsm
    obtain ⟨hs1, hs2, hs3⟩ := hsm
    have hnk : ks.length = nk := by have := hrk.len; rw [hvk.len] at this; omega
    rw [hnk] at hs2
    replace hnk := box hnk
    replace hvk := box hvk
    replace hs1 := box hs1
    have hF0 := Fr.one hh
    clear hh
    go_enter Tryd.func17, Tryd.ntmps17
    go_upto_region 3 with (first | ((with_reducible refine lst (by with_unfolding_all rfl) (wp_fbox hF0 (cs := (vlL k n ⟨t.toArray⟩ (.slice An nn cn) (.slice Ak nk ck))) rfl (by with_unfolding_all rfl) (by with_unfolding_all rfl) ?_)); intro w1 g1 hF1 hz1) | ((with_reducible refine lst (by with_unfolding_all rfl) (wp_falloc hF1 (cs := vl0) (z := .agg (List.toArray (vl0))) rfl (by kernel_rfl) (by with_unfolding_all rfl) ?_)); intro w2 g2 hF2 hz2) | (with_reducible refine lst (by with_unfolding_all rfl) (wp_fldA1 hF2 Tryd.underlying33 rfl (by with_unfolding_all exact ⟨_, rfl, rfl⟩) (ds := (vlL k n ⟨t.toArray⟩ (.slice An nn cn) (.slice Ak nk ck))) (by rw [vlL_len]; kernel_rfl) (take_all _) ?_)) | ((with_reducible refine lst (by with_unfolding_all rfl) (wp_falloc hF2 (cs := vl0) (z := .agg (List.toArray (vl0))) rfl (by kernel_rfl) (by with_unfolding_all rfl) ?_)); intro w3 g3 hF3 hz3) | ((with_reducible refine lst (by with_unfolding_all rfl) (wp_fstA0 hF3 (by with_unfolding_all exact ⟨_, _, rfl, rfl, rfl⟩) (by rw [vlL_len]; kernel_rfl) vlL_one vlL_fit vlL_spl ?_)); intro w4 hF4 hz4) | ((with_reducible refine lst (by with_unfolding_all rfl) (wp_fst0 hF4 (by with_unfolding_all exact ⟨_, _, rfl, rfl, rfl⟩) (by kernel_rfl) rfl rfl (by rw [vlL_len]; decide) vlL_4 ?_)); intro w5 hF5 hz5))
    have hF6 := (hF5.none_ w.heap.size 33 5).picks [1, 0, 4, 2, 3] (fs := (.blk g3 33 (vlL k n ⟨t.toArray⟩ (.slice An nn cn) (.slice none 0 0)) :: .own w.heap.size 33 5 (.slice none 0 0) 0 [] :: .blk gl 3 [.int .i64 (m : Int)] :: .blk g2 33 vl0 :: .blk g1 33 (vlL k n ⟨t.toArray⟩ (.slice An nn cn) (.slice Ak nk ck)) :: [])) rfl (by decide)
    clear hF0 hF1 hF2 hF3 hF4 hF5
    go_wp2_with fail
    go_loopg [8] nk (fun gk s wr => ∃ (i : Nat) (Ai : Option Addr) (ci' : Nat) (xs : List Value) (ys : List JV) (TE : List Ent) (m' : Nat), i ≤ nk ∧ Box (gk = nk - i) ∧ s = .int .i64 (i : Int) ∧ i ≤ ci' ∧ True ∧ m' ≤ m ∧ Box (VCL w B ys xs TE) ∧ Box (jCutL (jCutN d) ks m = (ys ++ (jCutL (jCutN d) (ks.drop i) m').1, (jCutL (jCutN d) (ks.drop i) m').2)) ∧ Fr [gl] w wr (.blk g3 33 (vlL k n ⟨t.toArray⟩ (.slice An nn cn) (.slice Ai i ci')) :: .own w.heap.size 33 5 (.slice Ai i ci') i xs :: .blk gl 3 [.int .i64 (m' : Int)] :: .blk g2 33 vl0 :: .blk g1 33 (vlL k n ⟨t.toArray⟩ (.slice An nn cn) (.slice Ak nk ck)) :: TE))
    case atStart => exact ⟨0, none, 0, [], [], [], m, by omega, box rfl, rfl, by omega, trivial, Nat.le_refl _, box VCL.nil, box (by simp), hF6⟩
    case round =>
      clear hF6
      obtain ⟨i, Ai, ci', xs, ys, TE, m', hi, hk, rfl, hci', h0, hm', hT, hJ, hF⟩ := hrel
      have hkf : Box (gk = nk - i) := hk
      clear hk
      by_cases hlt : i < nk
      · by_cases hm0 : 0 < m'
        · obtain ⟨vi, hvi⟩ : ∃ vi, ks[i]? = some vi := ⟨ks[i]'(by rw [hnk.out]; exact hlt), by simp⟩
          obtain ⟨ci, hci, hvri⟩ := hvk.out.at hvi
          have hcil := box hvri.len
          replace hci := box hci
          have hsi := hs3.at hvi
          obtain ⟨m1, rfl⟩ : ∃ m1, m' = m1 + 1 := ⟨m' - 1, by omega⟩
          have ihc := box (fun (w' : World) (es : List Ent) (hF' : Fr [gl] w w' es) (hh : w'.heap[gl]? = some (.cells [Value.int .i64 (m1 : Int)].toArray 3 (0, 0))) => ih vi ci w' gl m1 B (by omega) (by omega) (hvri.onG (hF'.belowG hgl hB)) hsi hgl (Nat.le_trans hB hF'.size) hh)
          have hT2 : Box (∀ (w' : World) (es : List Ent), Fr [gl] w w' es → ∀ c e, VC w' B (jCutN d vi m1).1 c e → VCL w B (ys ++ [(jCutN d vi m1).1]) (xs ++ c) (TE ++ e)) := box (fun w' es hF' c e h => hT.out.snoc (h.keep fun k hk => ((hF'.belowG hgl hB).block k hk).symm))
          have hJ2 := box (jCutL_step hvi hJ.out)
          have hle := jCutN_le d vi m1
          obtain ⟨m2, hm2⟩ : ∃ m2, m2 = (jCutN d vi m1).2 := ⟨_, rfl⟩
          rw [← hm2] at hle
          replace hm2 := box hm2
          have hwp := wrap64_pred (d := d) (by omega)
          replace hvi := box hvi
          replace hvri := box hvri
          replace hsi := box hsi
          replace hs3 := box hs3
          go_upto_region 7 with (first | (with_reducible refine lst (by with_unfolding_all rfl) (wp_fld4 hF Tryd.underlying31 rfl (by with_unfolding_all exact ⟨_, rfl, rfl⟩) rfl ?_)) | (with_reducible refine lst (by with_unfolding_all rfl) (wp_fld2 hF Tryd.underlying3 rfl (by with_unfolding_all exact ⟨_, rfl, rfl⟩) rfl ?_)) | ((with_reducible refine lst (by with_unfolding_all rfl) (wp_fst2 hF (by with_unfolding_all exact ⟨_, _, rfl, rfl, rfl⟩) (by kernel_rfl) rfl rfl (by first | decide | (simp; done) | (simp; omega)) (spl1' _ (.int .i64 ((m1 : Nat) : Int))) ?_)); intro w7 hF7 hz7))
          have hFd := hF7.drew
          refine wp_region_held (S := fun w' => w'.heap[g1]? = some (.cells (List.toArray (vlL k n ⟨t.toArray⟩ (.slice An nn cn) (.slice Ak nk ck))) 33 (0, 0)) ∧ Rd w' (· < B) Ak 5 nk xk) (by kernel_rfl) ?_
          change wpAnyH _ _ _ _ _ _ _ _ (World.drew _)
          refine tkp 0 ⟨hFd.blk (i := 4) rfl, hrk.onG hFd hgl hB⟩ ?_
          (try simp only [Act.put, List.setIfInBounds_toArray, List.set_cons_zero, List.set_cons_succ])
          refine tkp 2 ⟨hFd.blk (i := 4) rfl, hrk.onG hFd hgl hB⟩ ?_
          (try simp only [Act.put, List.setIfInBounds_toArray, List.set_cons_zero, List.set_cons_succ])
          refine tky 3 (y := yi_fld (by with_unfolding_all rfl) (fun _ h => h.1) Tryd.underlying31 rfl (by with_unfolding_all exact ⟨_, rfl, rfl⟩) rfl) (s := ⟨hFd.blk (i := 4) rfl, hrk.onG hFd hgl hB⟩) (h := ?_)
          (try simp only [Act.put, List.setIfInBounds_toArray, List.set_cons_zero, List.set_cons_succ])
          refine tkp 4 ⟨hFd.blk (i := 4) rfl, hrk.onG hFd hgl hB⟩ ?_
          (try simp only [Act.put, List.setIfInBounds_toArray, List.set_cons_zero, List.set_cons_succ])
          refine tky 5 (y := yi_ix (by with_unfolding_all rfl) T_rvals (fun h => hrk.some_ h) (k := i) (by with_unfolding_all exact ⟨_, _, _, _, rfl, rfl, rfl⟩) rfl (by omega)) (s := ⟨hFd.blk (i := 4) rfl, hrk.onG hFd hgl hB⟩) (h := ?_)
          (try simp only [Act.put, List.setIfInBounds_toArray, List.set_cons_zero, List.set_cons_succ])
          refine tky 6 (y := yi_ldA (by with_unfolding_all rfl) (fun _ h => h.2) Tryd.underlying33 rfl (by with_unfolding_all exact ⟨_, rfl, rfl⟩) (ds := ci) (by rw [hcil.out]; kernel_rfl) (by rw [hcil.out]; exact hci.out)) (s := ⟨hFd.blk (i := 4) rfl, hrk.onG hFd hgl hB⟩) (h := ?_)
          (try simp only [Act.put, List.setIfInBounds_toArray, List.set_cons_zero, List.set_cons_succ])
          refine tkp 7 ⟨hFd.blk (i := 4) rfl, hrk.onG hFd hgl hB⟩ ?_
          (try simp only [Act.put, List.setIfInBounds_toArray, List.set_cons_zero, List.set_cons_succ])
          refine tkp 8 ⟨hFd.blk (i := 4) rfl, hrk.onG hFd hgl hB⟩ ?_
          (try simp only [Act.put, List.setIfInBounds_toArray, List.set_cons_zero, List.set_cons_succ])
          refine tkp 9 ⟨hFd.blk (i := 4) rfl, hrk.onG hFd hgl hB⟩ ?_
          (try simp only [Act.put, List.setIfInBounds_toArray, List.set_cons_zero, List.set_cons_succ])
          refine wpAnyH_ready (rs := [1, 10]) (by kernel_rfl) (by simp) ?_
          refine AllReadyH.cons (by simp only [List.getElem?_toArray, List.getElem?_cons_zero, List.getElem?_cons_succ]; rfl) (fun K hK => ?_) ?_
          · refine stp (by with_unfolding_all rfl) (wp_fld hFd (i := 0) rfl Tryd.underlying31 rfl (by with_unfolding_all exact ⟨_, rfl, rfl⟩) rfl ?_)
            refine hK.out _ _ (⟨hFd.blk (i := 4) rfl, hrk.onG hFd hgl hB⟩) (fun _ => ?_)
            clear hK K
            (try simp only [Act.put, List.setIfInBounds_toArray, List.set_cons_zero, List.set_cons_succ])
            refine rdy1 10 (fun K hK => ?_)
            refine stp (by with_unfolding_all rfl) (wp_call Tryd.func17 rfl (by with_unfolding_all rfl) (by with_unfolding_all rfl) (by with_unfolding_all rfl) (ihc.out _ _ hFd (hFd.blk (i := 2) rfl)) ?_)
            rintro e w31 ⟨cs31, es31, rfl, hvt31, hv31⟩
            refine ⟨_, rfl, ?_⟩
            have hF31 := hFd.putG (i := 2) rfl hv31
            simp only [List.set_cons_zero, List.set_cons_succ, List.cons_append] at hF31
            rw [← hm2.out] at hF31
            have hTn31 := box (hT2.out _ _ hFd _ _ hvt31)
            refine hK.out _ _ (⟨hF31.blk (i := 4) rfl, hrk.onG hF31 hgl hB⟩) (fun _ => ?_)
            clear hK K
            (try simp only [Act.put, List.setIfInBounds_toArray, List.set_cons_zero, List.set_cons_succ])
            refine rdy1 11 (fun K hK => ?_)
            refine stp (by with_unfolding_all rfl) (wp_fbs1 T_rvals hF31 (by with_unfolding_all rfl) (ds := cs31) (by with_unfolding_all rfl) hvt31.len (by decide) ?_)
            intro w32 g32 hF32 hz32
            refine hK.out _ _ (⟨hF32.blk (i := 5) rfl, hrk.onG hF32 hgl hB⟩) (fun _ => ?_)
            clear hK K
            (try simp only [Act.put, List.setIfInBounds_toArray, List.set_cons_zero, List.set_cons_succ])
            refine rdy1 12 (fun K hK => ?_)
            refine stp (by with_unfolding_all rfl) (wp_fappG T_rvals hF32 (i := 2) rfl (Nat.le_refl _) (hF32.rdOwn (i := 0) rfl) hvt31.one (by with_unfolding_all exact ⟨_, _, rfl, rfl, rfl⟩) (by unfold maxLen; omega) (by omega) ?_)
            intro v33 w33 hF33 hz33
            (try simp only [List.set_cons_zero, List.set_cons_succ] at hF33)
            obtain ⟨A33, c33, rfl, hc33⟩ := hF33.ownParts (i := 2) rfl
            refine hK.out _ _ (⟨hF33.blk (i := 5) rfl, hrk.onG hF33 hgl hB⟩) (fun _ => ?_)
            clear hK K
            (try simp only [Act.put, List.setIfInBounds_toArray, List.set_cons_zero, List.set_cons_succ])
            refine tkp 13 ⟨hF33.blk (i := 5) rfl, hrk.onG hF33 hgl hB⟩ ?_
            (try simp only [Act.put, List.setIfInBounds_toArray, List.set_cons_zero, List.set_cons_succ])
            refine rdy1 14 (fun K hK => ?_)
            refine stp (by with_unfolding_all rfl) (wp_fst hF33 (i := 1) rfl (v := .slice A33 (i + 1) c33) (by with_unfolding_all exact ⟨_, _, rfl, rfl, rfl⟩) (by kernel_rfl) rfl rfl (by rw [vlL_len]; decide) ?_)
            intro w34 hF34 hz34
            (try simp only [List.set_cons_zero, List.set_cons_succ] at hF34)
            rw [(vlL_4 (k := k) (n := n) (t := ⟨t.toArray⟩) (a := .slice An nn cn) (b := .slice Ai i ci'))] at hF34
            refine hK.out _ _ (⟨hF34.blk (i := 5) rfl, hrk.onG hF34 hgl hB⟩) (fun _ => ?_)
            clear hK K
            (try simp only [Act.put, List.setIfInBounds_toArray, List.set_cons_zero, List.set_cons_succ])
            refine wpAnyH_done (by kernel_rfl) ?_ _
            go_wp2_with fail
            go_roundg (nk - (i + 1))
            case rel => exact ⟨i + 1, A33, c33, _, _, _, m2, by omega, box rfl, by go_num, hc33, trivial, by omega, hTn31, box (by rw [hm2.out]; exact hJ2.out), hF34.tail⟩
            case measure => have := hkf.out; omega
          refine AllReadyH.cons (by simp only [List.getElem?_toArray, List.getElem?_cons_zero, List.getElem?_cons_succ]; rfl) (fun K hK => ?_) ?_
          · refine stp (by with_unfolding_all rfl) (wp_call Tryd.func17 rfl (by with_unfolding_all rfl) (by with_unfolding_all rfl) (by with_unfolding_all rfl) (ihc.out _ _ hFd (hFd.blk (i := 2) rfl)) ?_)
            rintro e w31 ⟨cs31, es31, rfl, hvt31, hv31⟩
            refine ⟨_, rfl, ?_⟩
            have hF31 := hFd.putG (i := 2) rfl hv31
            simp only [List.set_cons_zero, List.set_cons_succ, List.cons_append] at hF31
            rw [← hm2.out] at hF31
            have hTn31 := box (hT2.out _ _ hFd _ _ hvt31)
            refine hK.out _ _ (⟨hF31.blk (i := 4) rfl, hrk.onG hF31 hgl hB⟩) (fun _ => ?_)
            clear hK K
            (try simp only [Act.put, List.setIfInBounds_toArray, List.set_cons_zero, List.set_cons_succ])
            refine wpAnyH_ready (rs := [1, 11]) (by kernel_rfl) (by simp) ?_
            refine AllReadyH.cons (by simp only [List.getElem?_toArray, List.getElem?_cons_zero, List.getElem?_cons_succ]; rfl) (fun K hK => ?_) ?_
            · refine stp (by with_unfolding_all rfl) (wp_fld hF31 (i := 0) rfl Tryd.underlying31 rfl (by with_unfolding_all exact ⟨_, rfl, rfl⟩) rfl ?_)
              refine hK.out _ _ (⟨hF31.blk (i := 4) rfl, hrk.onG hF31 hgl hB⟩) (fun _ => ?_)
              clear hK K
              (try simp only [Act.put, List.setIfInBounds_toArray, List.set_cons_zero, List.set_cons_succ])
              refine rdy1 11 (fun K hK => ?_)
              refine stp (by with_unfolding_all rfl) (wp_fbs1 T_rvals hF31 (by with_unfolding_all rfl) (ds := cs31) (by with_unfolding_all rfl) hvt31.len (by decide) ?_)
              intro w32 g32 hF32 hz32
              refine hK.out _ _ (⟨hF32.blk (i := 5) rfl, hrk.onG hF32 hgl hB⟩) (fun _ => ?_)
              clear hK K
              (try simp only [Act.put, List.setIfInBounds_toArray, List.set_cons_zero, List.set_cons_succ])
              refine rdy1 12 (fun K hK => ?_)
              refine stp (by with_unfolding_all rfl) (wp_fappG T_rvals hF32 (i := 2) rfl (Nat.le_refl _) (hF32.rdOwn (i := 0) rfl) hvt31.one (by with_unfolding_all exact ⟨_, _, rfl, rfl, rfl⟩) (by unfold maxLen; omega) (by omega) ?_)
              intro v33 w33 hF33 hz33
              (try simp only [List.set_cons_zero, List.set_cons_succ] at hF33)
              obtain ⟨A33, c33, rfl, hc33⟩ := hF33.ownParts (i := 2) rfl
              refine hK.out _ _ (⟨hF33.blk (i := 5) rfl, hrk.onG hF33 hgl hB⟩) (fun _ => ?_)
              clear hK K
              (try simp only [Act.put, List.setIfInBounds_toArray, List.set_cons_zero, List.set_cons_succ])
              refine tkp 13 ⟨hF33.blk (i := 5) rfl, hrk.onG hF33 hgl hB⟩ ?_
              (try simp only [Act.put, List.setIfInBounds_toArray, List.set_cons_zero, List.set_cons_succ])
              refine rdy1 14 (fun K hK => ?_)
              refine stp (by with_unfolding_all rfl) (wp_fst hF33 (i := 1) rfl (v := .slice A33 (i + 1) c33) (by with_unfolding_all exact ⟨_, _, rfl, rfl, rfl⟩) (by kernel_rfl) rfl rfl (by rw [vlL_len]; decide) ?_)
              intro w34 hF34 hz34
              (try simp only [List.set_cons_zero, List.set_cons_succ] at hF34)
              rw [(vlL_4 (k := k) (n := n) (t := ⟨t.toArray⟩) (a := .slice An nn cn) (b := .slice Ai i ci'))] at hF34
              refine hK.out _ _ (⟨hF34.blk (i := 5) rfl, hrk.onG hF34 hgl hB⟩) (fun _ => ?_)
              clear hK K
              (try simp only [Act.put, List.setIfInBounds_toArray, List.set_cons_zero, List.set_cons_succ])
              refine wpAnyH_done (by kernel_rfl) ?_ _
              go_wp2_with fail
              go_roundg (nk - (i + 1))
              case rel => exact ⟨i + 1, A33, c33, _, _, _, m2, by omega, box rfl, by go_num, hc33, trivial, by omega, hTn31, box (by rw [hm2.out]; exact hJ2.out), hF34.tail⟩
              case measure => have := hkf.out; omega
            refine AllReadyH.cons (by simp only [List.getElem?_toArray, List.getElem?_cons_zero, List.getElem?_cons_succ]; rfl) (fun K hK => ?_) ?_
            · refine stp (by with_unfolding_all rfl) (wp_fbs1 T_rvals hF31 (by with_unfolding_all rfl) (ds := cs31) (by with_unfolding_all rfl) hvt31.len (by decide) ?_)
              intro w32 g32 hF32 hz32
              refine hK.out _ _ (⟨hF32.blk (i := 5) rfl, hrk.onG hF32 hgl hB⟩) (fun _ => ?_)
              clear hK K
              (try simp only [Act.put, List.setIfInBounds_toArray, List.set_cons_zero, List.set_cons_succ])
              refine rdy1 1 (fun K hK => ?_)
              refine stp (by with_unfolding_all rfl) (wp_fld hF32 (i := 1) rfl Tryd.underlying31 rfl (by with_unfolding_all exact ⟨_, rfl, rfl⟩) rfl ?_)
              refine hK.out _ _ (⟨hF32.blk (i := 5) rfl, hrk.onG hF32 hgl hB⟩) (fun _ => ?_)
              clear hK K
              (try simp only [Act.put, List.setIfInBounds_toArray, List.set_cons_zero, List.set_cons_succ])
              refine rdy1 12 (fun K hK => ?_)
              refine stp (by with_unfolding_all rfl) (wp_fappG T_rvals hF32 (i := 2) rfl (Nat.le_refl _) (hF32.rdOwn (i := 0) rfl) hvt31.one (by with_unfolding_all exact ⟨_, _, rfl, rfl, rfl⟩) (by unfold maxLen; omega) (by omega) ?_)
              intro v33 w33 hF33 hz33
              (try simp only [List.set_cons_zero, List.set_cons_succ] at hF33)
              obtain ⟨A33, c33, rfl, hc33⟩ := hF33.ownParts (i := 2) rfl
              refine hK.out _ _ (⟨hF33.blk (i := 5) rfl, hrk.onG hF33 hgl hB⟩) (fun _ => ?_)
              clear hK K
              (try simp only [Act.put, List.setIfInBounds_toArray, List.set_cons_zero, List.set_cons_succ])
              refine tkp 13 ⟨hF33.blk (i := 5) rfl, hrk.onG hF33 hgl hB⟩ ?_
              (try simp only [Act.put, List.setIfInBounds_toArray, List.set_cons_zero, List.set_cons_succ])
              refine rdy1 14 (fun K hK => ?_)
              refine stp (by with_unfolding_all rfl) (wp_fst hF33 (i := 1) rfl (v := .slice A33 (i + 1) c33) (by with_unfolding_all exact ⟨_, _, rfl, rfl, rfl⟩) (by kernel_rfl) rfl rfl (by rw [vlL_len]; decide) ?_)
              intro w34 hF34 hz34
              (try simp only [List.set_cons_zero, List.set_cons_succ] at hF34)
              rw [(vlL_4 (k := k) (n := n) (t := ⟨t.toArray⟩) (a := .slice An nn cn) (b := .slice Ai i ci'))] at hF34
              refine hK.out _ _ (⟨hF34.blk (i := 5) rfl, hrk.onG hF34 hgl hB⟩) (fun _ => ?_)
              clear hK K
              (try simp only [Act.put, List.setIfInBounds_toArray, List.set_cons_zero, List.set_cons_succ])
              refine wpAnyH_done (by kernel_rfl) ?_ _
              go_wp2_with fail
              go_roundg (nk - (i + 1))
              case rel => exact ⟨i + 1, A33, c33, _, _, _, m2, by omega, box rfl, by go_num, hc33, trivial, by omega, hTn31, box (by rw [hm2.out]; exact hJ2.out), hF34.tail⟩
              case measure => have := hkf.out; omega
            exact AllReadyH.nil
          exact AllReadyH.nil
        · have hjc0 : Box (jCutN (d + 1) (.mk k n t ns ks) m = (.mk k n t ns ys, m')) := box (by
            obtain rfl : m' = 0 := by omega
            have h := hJ.out
            rw [jCutL_zero] at h
            rw [jCutN, h, List.append_nil])
          clear hJ
          go_wp2_with (first | (with_reducible refine lst (by with_unfolding_all rfl) (wp_fld4 hF Tryd.underlying31 rfl (by with_unfolding_all exact ⟨_, rfl, rfl⟩) rfl ?_)) | (with_reducible refine lst (by with_unfolding_all rfl) (wp_fld2 hF Tryd.underlying3 rfl (by with_unfolding_all exact ⟨_, rfl, rfl⟩) rfl ?_)) | (with_reducible refine lst (by with_unfolding_all rfl) (wp_fldA0 hF Tryd.underlying33 rfl (by with_unfolding_all exact ⟨_, rfl, rfl⟩) (ds := (vlL k n ⟨t.toArray⟩ (.slice An nn cn) (.slice Ai i ci'))) (by rw [vlL_len]; kernel_rfl) (take_all _) ?_)) | ((with_reducible refine lst (by with_unfolding_all rfl) (wp_fstA3 hF (by with_unfolding_all exact ⟨_, _, rfl, rfl, rfl⟩) (by rw [vlL_len]; kernel_rfl) vlL_one vlL_fit vlL_spl ?_)); intro w9 hF9 hz9))
          exact bodyPost_ret (results_cellF rfl _ hF9 (i := 3) rfl rfl Tryd.underlying33 rfl (by rw [vlL_len]; kernel_rfl)) rfl (by
            have hjc : jCutN (d + 1) (.mk k n t ns ks) m = (.mk k n t ns ys, m') := by exact hjc0.out
            rw [hjc]
            refine ⟨_, _, rfl, VC.mk_ hcn hci' hrn hT.out, ?_⟩
            have h1 := hF9.toRd (i := 1) rfl
            simp only [List.set_cons_succ, List.set_cons_zero] at h1
            refine (h1.sub (es' := .rd Ai 5 i xs :: .blk gl 3 [.int .i64 (m' : Int)] :: TE) ?_).perm (List.Perm.swap _ _ _)
            exact (((List.Sublist.refl _).cons _).cons _).cons_cons _ |>.cons_cons _ |>.cons _)
      · have hjc0 : Box (jCutN (d + 1) (.mk k n t ns ks) m = (.mk k n t ns ys, m')) := box (by
          have h := hJ.out
          rw [List.drop_of_length_le (by rw [hnk.out]; omega), jCutL] at h
          rw [jCutN, h, List.append_nil])
        clear hJ
        go_wp2_with (first | (with_reducible refine lst (by with_unfolding_all rfl) (wp_fld4 hF Tryd.underlying31 rfl (by with_unfolding_all exact ⟨_, rfl, rfl⟩) rfl ?_)) | (with_reducible refine lst (by with_unfolding_all rfl) (wp_fld2 hF Tryd.underlying3 rfl (by with_unfolding_all exact ⟨_, rfl, rfl⟩) rfl ?_)) | (with_reducible refine lst (by with_unfolding_all rfl) (wp_fldA0 hF Tryd.underlying33 rfl (by with_unfolding_all exact ⟨_, rfl, rfl⟩) (ds := (vlL k n ⟨t.toArray⟩ (.slice An nn cn) (.slice Ai i ci'))) (by rw [vlL_len]; kernel_rfl) (take_all _) ?_)) | ((with_reducible refine lst (by with_unfolding_all rfl) (wp_fstA3 hF (by with_unfolding_all exact ⟨_, _, rfl, rfl, rfl⟩) (by rw [vlL_len]; kernel_rfl) vlL_one vlL_fit vlL_spl ?_)); intro w9 hF9 hz9))
        exact bodyPost_ret (results_cellF rfl _ hF9 (i := 3) rfl rfl Tryd.underlying33 rfl (by rw [vlL_len]; kernel_rfl)) rfl (by
          have hjc : jCutN (d + 1) (.mk k n t ns ks) m = (.mk k n t ns ys, m') := by exact hjc0.out
          rw [hjc]
          refine ⟨_, _, rfl, VC.mk_ hcn hci' hrn hT.out, ?_⟩
          have h1 := hF9.toRd (i := 1) rfl
          simp only [List.set_cons_succ, List.set_cons_zero] at h1
          refine (h1.sub (es' := .rd Ai 5 i xs :: .blk gl 3 [.int .i64 (m' : Int)] :: TE) ?_).perm (List.Perm.swap _ _ _)
          exact (((List.Sublist.refl _).cons _).cons _).cons_cons _ |>.cons_cons _ |>.cons _)

end Go.Proofs.YtdekogmegdhjoaaDoor

namespace Go.Proofs.YtdekogmegdhjoaaDoor
open Go.RowKit
set_option linter.unusedSimpArgs false

theorem vlL_1 {k n n' : Int} {t : ByteArray} {a b : Value} : spl (vlL k n t a b) 1 [.int .i64 n'] = vlL k n' t a b := rfl
theorem vlL_2 {k n : Int} {t t' : ByteArray} {a b : Value} : spl (vlL k n t a b) 2 [.string t'] = vlL k n t' a b := rfl

set_option maxRecDepth 20000 in
set_option maxHeartbeats 12800000 in
theorem rbare_any (N : Nat) : ∀ (v : JV) (cs : List Value) (w : World), SizeOf.sizeOf v ≤ N → VRd w (· < w.heap.size) v cs → JSm v →
    Calls Tryd.prog 23 #[.agg cs.toArray] w fun e w' => ∃ cs' es', e = .returned (.agg cs'.toArray) ∧ VT (jBare v) cs' es' ∧ Fr [] w w' es' := by
  induction N with
  | zero => intro v _ _ h; cases v; simp only [JV.mk.sizeOf_spec] at h; omega
  | succ N ih =>
    intro v cs w hN hv hsm
    obtain ⟨k, n, t, ns, ks⟩ := v
    rw [VRd] at hv
    obtain ⟨An, nn, cn, Ak, nk, ck, xk, hcn, hck, rfl, hrn, hrk, hvk⟩ := hv
    rw [JSm] at hsm
    obtain ⟨hs1, hs2, hs3⟩ := hsm
    have hnn : ns.length = nn := by have := hrn.len; simpa using this
    have hnk : ks.length = nk := by have := hrk.len; rw [hvk.len] at this; omega
    rw [hnn] at hs1
    rw [hnk] at hs2
    replace hnn := box hnn
    replace hnk := box hnk
    replace hvk := box hvk
    have hF0 := Fr.nil w
    by_cases hk3 : k = 3
    · subst hk3
      have hjb : Box (jBare (.mk 3 n t ns ks) = .mk 3 n [] [] []) := box (by rw [jBare]; rfl)
      go_enter Tryd.func23, Tryd.ntmps23
      go_wp2_with (first | ((with_reducible refine lst (by with_unfolding_all rfl) (wp_fbox hF0 (cs := (vlL 3 n ⟨t.toArray⟩ (.slice An nn cn) (.slice Ak nk ck))) rfl (by with_unfolding_all rfl) (by with_unfolding_all rfl) ?_)); intro w1 g1 hF1 hz1) | ((with_reducible refine lst (by with_unfolding_all rfl) (wp_falloc hF1 (cs := vl0) (z := .agg (List.toArray (vl0))) rfl (by kernel_rfl) (by with_unfolding_all rfl) ?_)); intro w2 g2 hF2 hz2) | (with_reducible refine lst (by with_unfolding_all rfl) (wp_fld1 hF2 Tryd.underlying3 rfl (by with_unfolding_all exact ⟨_, rfl, rfl⟩) rfl ?_)) | (with_reducible refine lst (by with_unfolding_all rfl) (wp_fbuild Tryd.underlying33 (z := .agg (List.toArray vl0)) (by kernel_rfl) (pl := vlP) (by kernel_rfl) (cs := (vlL 3 0 ⟨#[]⟩ (.slice none 0 0) (.slice none 0 0))) rfl (vs := [(0, .int .i64 (3))]) (by with_unfolding_all rfl) (by with_unfolding_all rfl) ?_)) | ((with_reducible refine lst (by with_unfolding_all rfl) (wp_falloc hF2 (cs := vl0) (z := .agg (List.toArray (vl0))) rfl (by kernel_rfl) (by with_unfolding_all rfl) ?_)); intro w3 g3 hF3 hz3) | ((with_reducible refine lst (by with_unfolding_all rfl) (wp_fstA0 hF3 (by with_unfolding_all exact ⟨_, _, rfl, rfl, rfl⟩) (by rw [vlL_len]; kernel_rfl) vlL_one vlL_fit vlL_spl ?_)); intro w4 hF4 hz4) | (with_reducible refine lst (by with_unfolding_all rfl) (wp_fld2 hF4 Tryd.underlying3 rfl (by with_unfolding_all exact ⟨_, rfl, rfl⟩) rfl ?_)) | (with_reducible refine lst (by with_unfolding_all rfl) (wp_fld2 hF4 Tryd.underlying3 rfl (by with_unfolding_all exact ⟨_, rfl, rfl⟩) rfl ?_)) | ((with_reducible refine lst (by with_unfolding_all rfl) (wp_fst0 hF4 (by with_unfolding_all exact ⟨_, _, rfl, rfl, rfl⟩) (by kernel_rfl) rfl rfl (by rw [vlL_len]; decide) vlL_1 ?_)); intro w5 hF5 hz5) | (with_reducible refine lst (by with_unfolding_all rfl) (wp_fld2 hF5 Tryd.underlying3 rfl (by with_unfolding_all exact ⟨_, rfl, rfl⟩) rfl ?_)) | (with_reducible refine lst (by with_unfolding_all rfl) (wp_fldA0 hF5 Tryd.underlying33 rfl (by with_unfolding_all exact ⟨_, rfl, rfl⟩) (ds := (vlL 3 n ⟨#[]⟩ (.slice none 0 0) (.slice none 0 0))) (by rw [vlL_len]; kernel_rfl) (take_all _) ?_)) | ((with_reducible refine lst (by with_unfolding_all rfl) (wp_fstA1 hF5 (by with_unfolding_all exact ⟨_, _, rfl, rfl, rfl⟩) (by rw [vlL_len]; kernel_rfl) vlL_one vlL_fit vlL_spl ?_)); intro w6 hF6 hz6))
      exact bodyPost_ret (results_cellF rfl _ hF6 (i := 1) rfl rfl Tryd.underlying33 rfl (by rw [vlL_len]; kernel_rfl)) rfl (by
        rw [hjb.out]
        have h9 := (hF6.tail.tail.tail.pushNone 5).pushNone 1
        first | exact ⟨_, _, rfl, VT.leaf, h9⟩ | exact ⟨_, rfl, _, VT.leaf, h9⟩)
    by_cases hk4 : k = 4
    · subst hk4
      have hjb : Box (jBare (.mk 4 n t ns ks) = .mk 4 0 t [] []) := box (by rw [jBare]; rfl)
      go_enter Tryd.func23, Tryd.ntmps23
      go_wp2_with (first | ((with_reducible refine lst (by with_unfolding_all rfl) (wp_fbox hF0 (cs := (vlL 4 n ⟨t.toArray⟩ (.slice An nn cn) (.slice Ak nk ck))) rfl (by with_unfolding_all rfl) (by with_unfolding_all rfl) ?_)); intro w1 g1 hF1 hz1) | ((with_reducible refine lst (by with_unfolding_all rfl) (wp_falloc hF1 (cs := vl0) (z := .agg (List.toArray (vl0))) rfl (by kernel_rfl) (by with_unfolding_all rfl) ?_)); intro w2 g2 hF2 hz2) | (with_reducible refine lst (by with_unfolding_all rfl) (wp_fld1 hF2 Tryd.underlying3 rfl (by with_unfolding_all exact ⟨_, rfl, rfl⟩) rfl ?_)) | (with_reducible refine lst (by with_unfolding_all rfl) (wp_fbuild Tryd.underlying33 (z := .agg (List.toArray vl0)) (by kernel_rfl) (pl := vlP) (by kernel_rfl) (cs := (vlL 4 0 ⟨#[]⟩ (.slice none 0 0) (.slice none 0 0))) rfl (vs := [(0, .int .i64 (4))]) (by with_unfolding_all rfl) (by with_unfolding_all rfl) ?_)) | ((with_reducible refine lst (by with_unfolding_all rfl) (wp_falloc hF2 (cs := vl0) (z := .agg (List.toArray (vl0))) rfl (by kernel_rfl) (by with_unfolding_all rfl) ?_)); intro w3 g3 hF3 hz3) | ((with_reducible refine lst (by with_unfolding_all rfl) (wp_fstA0 hF3 (by with_unfolding_all exact ⟨_, _, rfl, rfl, rfl⟩) (by rw [vlL_len]; kernel_rfl) vlL_one vlL_fit vlL_spl ?_)); intro w4 hF4 hz4) | (with_reducible refine lst (by with_unfolding_all rfl) (wp_fld2 hF4 Tryd.underlying3 rfl (by with_unfolding_all exact ⟨_, rfl, rfl⟩) rfl ?_)) | (with_reducible refine lst (by with_unfolding_all rfl) (wp_fld2 hF4 Tryd.underlying3 rfl (by with_unfolding_all exact ⟨_, rfl, rfl⟩) rfl ?_)) | (with_reducible refine lst (by with_unfolding_all rfl) (wp_fld2 hF4 Tryd.underlying9 rfl (by with_unfolding_all exact ⟨_, rfl, rfl⟩) rfl ?_)) | ((with_reducible refine lst (by with_unfolding_all rfl) (wp_fst0 hF4 (by with_unfolding_all exact ⟨_, _, rfl, rfl, rfl⟩) (by kernel_rfl) rfl rfl (by rw [vlL_len]; decide) vlL_2 ?_)); intro w5 hF5 hz5) | (with_reducible refine lst (by with_unfolding_all rfl) (wp_fld2 hF5 Tryd.underlying3 rfl (by with_unfolding_all exact ⟨_, rfl, rfl⟩) rfl ?_)) | (with_reducible refine lst (by with_unfolding_all rfl) (wp_fldA0 hF5 Tryd.underlying33 rfl (by with_unfolding_all exact ⟨_, rfl, rfl⟩) (ds := (vlL 4 0 ⟨t.toArray⟩ (.slice none 0 0) (.slice none 0 0))) (by rw [vlL_len]; kernel_rfl) (take_all _) ?_)) | ((with_reducible refine lst (by with_unfolding_all rfl) (wp_fstA1 hF5 (by with_unfolding_all exact ⟨_, _, rfl, rfl, rfl⟩) (by rw [vlL_len]; kernel_rfl) vlL_one vlL_fit vlL_spl ?_)); intro w6 hF6 hz6))
      exact bodyPost_ret (results_cellF rfl _ hF6 (i := 1) rfl rfl Tryd.underlying33 rfl (by rw [vlL_len]; kernel_rfl)) rfl (by
        rw [hjb.out]
        have h9 := (hF6.tail.tail.tail.pushNone 5).pushNone 1
        first | exact ⟨_, _, rfl, VT.leaf, h9⟩ | exact ⟨_, rfl, _, VT.leaf, h9⟩)
    have d3 : (k == 3) = false := by rw [beq_eq_false_iff_ne]; assumption
    have d4 : (k == 4) = false := by rw [beq_eq_false_iff_ne]; assumption
    by_cases hk5 : 5 ≤ k
    rotate_left
    · have d5 : decide ((5 : Int) ≤ k) = false := decide_eq_false hk5
      have d6 : (k == 6) = false := by rw [beq_eq_false_iff_ne]; omega
      have hjb : Box (jBare (.mk k n t ns ks) = .mk k 0 [] [] []) := box (by rw [jBare, if_neg hk3, if_neg hk4, if_neg (show ¬ k = 6 by omega), if_neg hk5])
      replace hk3 := box hk3
      replace hk4 := box hk4
      replace hk5 := box hk5
      go_enter Tryd.func23, Tryd.ntmps23
      go_wp2_with (first | ((with_reducible refine lst (by with_unfolding_all rfl) (wp_fbox hF0 (cs := (vlL k n ⟨t.toArray⟩ (.slice An nn cn) (.slice Ak nk ck))) rfl (by with_unfolding_all rfl) (by with_unfolding_all rfl) ?_)); intro w1 g1 hF1 hz1) | ((with_reducible refine lst (by with_unfolding_all rfl) (wp_falloc hF1 (cs := vl0) (z := .agg (List.toArray (vl0))) rfl (by kernel_rfl) (by with_unfolding_all rfl) ?_)); intro w2 g2 hF2 hz2) | (with_reducible refine lst (by with_unfolding_all rfl) (wp_fld1 hF2 Tryd.underlying3 rfl (by with_unfolding_all exact ⟨_, rfl, rfl⟩) rfl ?_)) | (with_reducible refine lst (by with_unfolding_all rfl) (wp_fbuild Tryd.underlying33 (z := .agg (List.toArray vl0)) (by kernel_rfl) (pl := vlP) (by kernel_rfl) (cs := (vlL k 0 ⟨#[]⟩ (.slice none 0 0) (.slice none 0 0))) rfl (vs := [(0, .int .i64 (k))]) (by with_unfolding_all rfl) (by with_unfolding_all rfl) ?_)) | ((with_reducible refine lst (by with_unfolding_all rfl) (wp_falloc hF2 (cs := vl0) (z := .agg (List.toArray (vl0))) rfl (by kernel_rfl) (by with_unfolding_all rfl) ?_)); intro w3 g3 hF3 hz3) | ((with_reducible refine lst (by with_unfolding_all rfl) (wp_fstA0 hF3 (by with_unfolding_all exact ⟨_, _, rfl, rfl, rfl⟩) (by rw [vlL_len]; kernel_rfl) vlL_one vlL_fit vlL_spl ?_)); intro w4 hF4 hz4) | (with_reducible refine lst (by with_unfolding_all rfl) (wp_fld2 hF4 Tryd.underlying3 rfl (by with_unfolding_all exact ⟨_, rfl, rfl⟩) rfl ?_)) | (with_reducible refine lst (by with_unfolding_all rfl) (wp_fldA0 hF4 Tryd.underlying33 rfl (by with_unfolding_all exact ⟨_, rfl, rfl⟩) (ds := (vlL k 0 ⟨#[]⟩ (.slice none 0 0) (.slice none 0 0))) (by rw [vlL_len]; kernel_rfl) (take_all _) ?_)) | ((with_reducible refine lst (by with_unfolding_all rfl) (wp_fstA1 hF4 (by with_unfolding_all exact ⟨_, _, rfl, rfl, rfl⟩) (by rw [vlL_len]; kernel_rfl) vlL_one vlL_fit vlL_spl ?_)); intro w6 hF6 hz6))
      exact bodyPost_ret (results_cellF rfl _ hF6 (i := 1) rfl rfl Tryd.underlying33 rfl (by rw [vlL_len]; kernel_rfl)) rfl (by
        rw [hjb.out]
        have h9 := (hF6.tail.tail.tail.pushNone 5).pushNone 1
        first | exact ⟨_, _, rfl, VT.leaf, h9⟩ | exact ⟨_, rfl, _, VT.leaf, h9⟩)
    have d5 : decide ((5 : Int) ≤ k) = true := decide_eq_true hk5
    replace hk3 := box hk3
    replace hk4 := box hk4
    replace hk5 := box hk5
    go_enter Tryd.func23, Tryd.ntmps23
    go_wp2_with (first | ((with_reducible refine lst (by with_unfolding_all rfl) (wp_fbox hF0 (cs := (vlL k n ⟨t.toArray⟩ (.slice An nn cn) (.slice Ak nk ck))) rfl (by with_unfolding_all rfl) (by with_unfolding_all rfl) ?_)); intro w1 g1 hF1 hz1) | ((with_reducible refine lst (by with_unfolding_all rfl) (wp_falloc hF1 (cs := vl0) (z := .agg (List.toArray (vl0))) rfl (by kernel_rfl) (by with_unfolding_all rfl) ?_)); intro w2 g2 hF2 hz2) | (with_reducible refine lst (by with_unfolding_all rfl) (wp_fld1 hF2 Tryd.underlying3 rfl (by with_unfolding_all exact ⟨_, rfl, rfl⟩) rfl ?_)) | (with_reducible refine lst (by with_unfolding_all rfl) (wp_fbuild Tryd.underlying33 (z := .agg (List.toArray vl0)) (by kernel_rfl) (pl := vlP) (by kernel_rfl) (cs := (vlL k 0 ⟨#[]⟩ (.slice none 0 0) (.slice none 0 0))) rfl (vs := [(0, .int .i64 (k))]) (by with_unfolding_all rfl) (by with_unfolding_all rfl) ?_)) | ((with_reducible refine lst (by with_unfolding_all rfl) (wp_falloc hF2 (cs := vl0) (z := .agg (List.toArray (vl0))) rfl (by kernel_rfl) (by with_unfolding_all rfl) ?_)); intro w3 g3 hF3 hz3) | ((with_reducible refine lst (by with_unfolding_all rfl) (wp_fstA0 hF3 (by with_unfolding_all exact ⟨_, _, rfl, rfl, rfl⟩) (by rw [vlL_len]; kernel_rfl) vlL_one vlL_fit vlL_spl ?_)); intro w4 hF4 hz4) | (with_reducible refine lst (by with_unfolding_all rfl) (wp_fld2 hF4 Tryd.underlying3 rfl (by with_unfolding_all exact ⟨_, rfl, rfl⟩) rfl ?_)))
    have hF5 := ((hF4.none_ w.heap.size 9 1).none_ w.heap.size 33 5).picks [2, 0, 1, 3, 4] (fs := (.blk g3 33 (vlL k 0 ⟨#[]⟩ (.slice none 0 0) (.slice none 0 0)) :: .own w.heap.size 33 5 (.slice none 0 0) 0 [] :: .own w.heap.size 9 1 (.slice none 0 0) 0 ((ns.take 0).map strv) :: .blk g2 33 vl0 :: .blk g1 33 (vlL k n ⟨t.toArray⟩ (.slice An nn cn) (.slice Ak nk ck)) :: [])) rfl (by decide)
    clear hF0 hF1 hF2 hF3 hF4
    go_loopg [4] nk (fun gk s wr => ∃ (i : Nat) (Ai : Option Addr) (ci' : Nat) (xs : List Value) (TE : List Ent), i ≤ nk ∧ Box (gk = nk - i) ∧ s = .int .i64 (i : Int) ∧ i ≤ ci' ∧ Box (VTL ((ks.take i).map jBare) xs TE) ∧ Fr [] w wr (.blk g3 33 (vlL k 0 ⟨#[]⟩ (.slice none 0 0) (.slice Ai i ci')) :: .own w.heap.size 33 5 (.slice Ai i ci') i xs :: .own w.heap.size 9 1 (.slice none 0 0) 0 ((ns.take 0).map strv) :: .blk g2 33 vl0 :: .blk g1 33 (vlL k n ⟨t.toArray⟩ (.slice An nn cn) (.slice Ak nk ck)) :: TE))
    case atStart => exact ⟨0, none, 0, [], [], by omega, box rfl, rfl, by omega, box VTL.nil, hF5⟩
    case round =>
      clear hF5
      obtain ⟨i, Ai, ci', xs, TE, hi, hk, rfl, hci', hT, hF⟩ := hrel
      have hkf : Box (gk = nk - i) := hk
      clear hk
      by_cases hlt : i < nk
      · obtain ⟨vi, hvi⟩ : ∃ vi, ks[i]? = some vi := ⟨ks[i]'(by rw [hnk.out]; exact hlt), by simp⟩
        obtain ⟨ci, hci, hvri⟩ := hvk.out.at hvi
        have hcil := box hvri.len
        replace hci := box hci
        have hsi := hs3.at hvi
        have hsz : SizeOf.sizeOf vi ≤ N := by have := JV.size_kid (k := k) (n := n) (t := t) (ns := ns) hvi; omega
        have ihc := box (fun w' (hb : Below w.heap.size w w') => ih vi ci w' hsz (hvri.on hb) hsi)
        have hT2 : Box (∀ c e, VT (jBare vi) c e → VTL ((ks.take (i + 1)).map jBare) (xs ++ c) (TE ++ e)) := box (fun c e h => by
          rw [List.take_add_one, hvi, List.map_append]
          exact hT.out.snoc h)
        replace hvi := box hvi
        replace hvri := box hvri
        replace hsi := box hsi
        replace hs3 := box hs3
        replace hsz := box hsz
        replace hN := box hN
        go_upto_region 10 with (first | (with_reducible refine lst (by with_unfolding_all rfl) (wp_fld4 hF Tryd.underlying31 rfl (by with_unfolding_all exact ⟨_, rfl, rfl⟩) rfl ?_)))
        have hFd := hF.drew
        refine wp_region_held (S := fun w' => w'.heap[g1]? = some (.cells (List.toArray (vlL k n ⟨t.toArray⟩ (.slice An nn cn) (.slice Ak nk ck))) 33 (0, 0)) ∧ Rd w' (· < w.heap.size) Ak 5 nk xk) (by kernel_rfl) ?_
        change wpAnyH _ _ _ _ _ _ _ _ (World.drew _)
        refine tkp 0 ⟨hFd.blk (i := 4) rfl, hrk.below hFd.below⟩ ?_
        (try simp only [Act.put, List.setIfInBounds_toArray, List.set_cons_zero, List.set_cons_succ])
        refine tkp 2 ⟨hFd.blk (i := 4) rfl, hrk.below hFd.below⟩ ?_
        (try simp only [Act.put, List.setIfInBounds_toArray, List.set_cons_zero, List.set_cons_succ])
        refine tky 3 (y := yi_fld (by with_unfolding_all rfl) (fun _ h => h.1) Tryd.underlying31 rfl (by with_unfolding_all exact ⟨_, rfl, rfl⟩) rfl) (s := ⟨hFd.blk (i := 4) rfl, hrk.below hFd.below⟩) (h := ?_)
        (try simp only [Act.put, List.setIfInBounds_toArray, List.set_cons_zero, List.set_cons_succ])
        refine tkp 4 ⟨hFd.blk (i := 4) rfl, hrk.below hFd.below⟩ ?_
        (try simp only [Act.put, List.setIfInBounds_toArray, List.set_cons_zero, List.set_cons_succ])
        refine tky 5 (y := yi_ix (by with_unfolding_all rfl) T_rvals (fun h => hrk.some_ h) (k := i) (by with_unfolding_all exact ⟨_, _, _, _, rfl, rfl, rfl⟩) rfl (by omega)) (s := ⟨hFd.blk (i := 4) rfl, hrk.below hFd.below⟩) (h := ?_)
        (try simp only [Act.put, List.setIfInBounds_toArray, List.set_cons_zero, List.set_cons_succ])
        refine tky 6 (y := yi_ldA (by with_unfolding_all rfl) (fun _ h => h.2) Tryd.underlying33 rfl (by with_unfolding_all exact ⟨_, rfl, rfl⟩) (ds := ci) (by rw [hcil.out]; kernel_rfl) (by rw [hcil.out]; exact hci.out)) (s := ⟨hFd.blk (i := 4) rfl, hrk.below hFd.below⟩) (h := ?_)
        (try simp only [Act.put, List.setIfInBounds_toArray, List.set_cons_zero, List.set_cons_succ])
        refine wpAnyH_ready (rs := [1, 7]) (by kernel_rfl) (by simp) ?_
        refine AllReadyH.cons (by simp only [List.getElem?_toArray, List.getElem?_cons_zero, List.getElem?_cons_succ]; rfl) (fun K hK => ?_) ?_
        · refine stp (by with_unfolding_all rfl) (wp_fld hFd (i := 0) rfl Tryd.underlying31 rfl (by with_unfolding_all exact ⟨_, rfl, rfl⟩) rfl ?_)
          refine hK.out _ _ (⟨hFd.blk (i := 4) rfl, hrk.below hFd.below⟩) (fun _ => ?_)
          clear hK K
          (try simp only [Act.put, List.setIfInBounds_toArray, List.set_cons_zero, List.set_cons_succ])
          refine rdy1 7 (fun K hK => ?_)
          refine stp (by with_unfolding_all rfl) (wp_call Tryd.func23 rfl (by with_unfolding_all rfl) (by with_unfolding_all rfl) (by with_unfolding_all rfl) (ihc.out _ hFd.below) ?_)
          rintro e w31 ⟨cs31, es31, rfl, hvt31, hv31⟩
          refine ⟨_, rfl, ?_⟩
          have hF31 := hFd.joinR hv31
          simp only [List.cons_append] at hF31
          have hTn31 := box (hT2.out _ _ hvt31)
          refine hK.out _ _ (⟨hF31.blk (i := 4) rfl, hrk.below hF31.below⟩) (fun _ => ?_)
          clear hK K
          (try simp only [Act.put, List.setIfInBounds_toArray, List.set_cons_zero, List.set_cons_succ])
          refine rdy1 8 (fun K hK => ?_)
          refine stp (by with_unfolding_all rfl) (wp_fbs1 T_rvals hF31 (by with_unfolding_all rfl) (ds := cs31) (by with_unfolding_all rfl) hvt31.len (by decide) ?_)
          intro w32 g32 hF32 hz32
          refine hK.out _ _ (⟨hF32.blk (i := 5) rfl, hrk.below hF32.below⟩) (fun _ => ?_)
          clear hK K
          (try simp only [Act.put, List.setIfInBounds_toArray, List.set_cons_zero, List.set_cons_succ])
          refine rdy1 9 (fun K hK => ?_)
          refine stp (by with_unfolding_all rfl) (wp_fappG T_rvals hF32 (i := 2) rfl (Nat.le_refl _) (hF32.rdOwn (i := 0) rfl) hvt31.one (by with_unfolding_all exact ⟨_, _, rfl, rfl, rfl⟩) (by unfold maxLen; omega) (by omega) ?_)
          intro v33 w33 hF33 hz33
          (try simp only [List.set_cons_zero, List.set_cons_succ] at hF33)
          obtain ⟨A33, c33, rfl, hc33⟩ := hF33.ownParts (i := 2) rfl
          refine hK.out _ _ (⟨hF33.blk (i := 5) rfl, hrk.below hF33.below⟩) (fun _ => ?_)
          clear hK K
          (try simp only [Act.put, List.setIfInBounds_toArray, List.set_cons_zero, List.set_cons_succ])
          refine tkp 10 ⟨hF33.blk (i := 5) rfl, hrk.below hF33.below⟩ ?_
          (try simp only [Act.put, List.setIfInBounds_toArray, List.set_cons_zero, List.set_cons_succ])
          refine rdy1 11 (fun K hK => ?_)
          refine stp (by with_unfolding_all rfl) (wp_fst hF33 (i := 1) rfl (v := .slice A33 (i + 1) c33) (by with_unfolding_all exact ⟨_, _, rfl, rfl, rfl⟩) (by kernel_rfl) rfl rfl (by rw [vlL_len]; decide) ?_)
          intro w34 hF34 hz34
          (try simp only [List.set_cons_zero, List.set_cons_succ] at hF34)
          rw [(vlL_4 (k := k) (n := 0) (t := ⟨#[]⟩) (a := .slice none 0 0) (b := .slice Ai i ci'))] at hF34
          refine hK.out _ _ (⟨hF34.blk (i := 5) rfl, hrk.below hF34.below⟩) (fun _ => ?_)
          clear hK K
          (try simp only [Act.put, List.setIfInBounds_toArray, List.set_cons_zero, List.set_cons_succ])
          refine wpAnyH_done (by kernel_rfl) ?_ _
          go_wp2_with fail
          go_roundg (nk - (i + 1))
          case rel => exact ⟨i + 1, A33, c33, _, _, by omega, box rfl, by go_num, hc33, hTn31, hF34.tail⟩
          case measure => have := hkf.out; omega
        refine AllReadyH.cons (by simp only [List.getElem?_toArray, List.getElem?_cons_zero, List.getElem?_cons_succ]; rfl) (fun K hK => ?_) ?_
        · refine stp (by with_unfolding_all rfl) (wp_call Tryd.func23 rfl (by with_unfolding_all rfl) (by with_unfolding_all rfl) (by with_unfolding_all rfl) (ihc.out _ hFd.below) ?_)
          rintro e w31 ⟨cs31, es31, rfl, hvt31, hv31⟩
          refine ⟨_, rfl, ?_⟩
          have hF31 := hFd.joinR hv31
          simp only [List.cons_append] at hF31
          have hTn31 := box (hT2.out _ _ hvt31)
          refine hK.out _ _ (⟨hF31.blk (i := 4) rfl, hrk.below hF31.below⟩) (fun _ => ?_)
          clear hK K
          (try simp only [Act.put, List.setIfInBounds_toArray, List.set_cons_zero, List.set_cons_succ])
          refine wpAnyH_ready (rs := [1, 8]) (by kernel_rfl) (by simp) ?_
          refine AllReadyH.cons (by simp only [List.getElem?_toArray, List.getElem?_cons_zero, List.getElem?_cons_succ]; rfl) (fun K hK => ?_) ?_
          · refine stp (by with_unfolding_all rfl) (wp_fld hF31 (i := 0) rfl Tryd.underlying31 rfl (by with_unfolding_all exact ⟨_, rfl, rfl⟩) rfl ?_)
            refine hK.out _ _ (⟨hF31.blk (i := 4) rfl, hrk.below hF31.below⟩) (fun _ => ?_)
            clear hK K
            (try simp only [Act.put, List.setIfInBounds_toArray, List.set_cons_zero, List.set_cons_succ])
            refine rdy1 8 (fun K hK => ?_)
            refine stp (by with_unfolding_all rfl) (wp_fbs1 T_rvals hF31 (by with_unfolding_all rfl) (ds := cs31) (by with_unfolding_all rfl) hvt31.len (by decide) ?_)
            intro w32 g32 hF32 hz32
            refine hK.out _ _ (⟨hF32.blk (i := 5) rfl, hrk.below hF32.below⟩) (fun _ => ?_)
            clear hK K
            (try simp only [Act.put, List.setIfInBounds_toArray, List.set_cons_zero, List.set_cons_succ])
            refine rdy1 9 (fun K hK => ?_)
            refine stp (by with_unfolding_all rfl) (wp_fappG T_rvals hF32 (i := 2) rfl (Nat.le_refl _) (hF32.rdOwn (i := 0) rfl) hvt31.one (by with_unfolding_all exact ⟨_, _, rfl, rfl, rfl⟩) (by unfold maxLen; omega) (by omega) ?_)
            intro v33 w33 hF33 hz33
            (try simp only [List.set_cons_zero, List.set_cons_succ] at hF33)
            obtain ⟨A33, c33, rfl, hc33⟩ := hF33.ownParts (i := 2) rfl
            refine hK.out _ _ (⟨hF33.blk (i := 5) rfl, hrk.below hF33.below⟩) (fun _ => ?_)
            clear hK K
            (try simp only [Act.put, List.setIfInBounds_toArray, List.set_cons_zero, List.set_cons_succ])
            refine tkp 10 ⟨hF33.blk (i := 5) rfl, hrk.below hF33.below⟩ ?_
            (try simp only [Act.put, List.setIfInBounds_toArray, List.set_cons_zero, List.set_cons_succ])
            refine rdy1 11 (fun K hK => ?_)
            refine stp (by with_unfolding_all rfl) (wp_fst hF33 (i := 1) rfl (v := .slice A33 (i + 1) c33) (by with_unfolding_all exact ⟨_, _, rfl, rfl, rfl⟩) (by kernel_rfl) rfl rfl (by rw [vlL_len]; decide) ?_)
            intro w34 hF34 hz34
            (try simp only [List.set_cons_zero, List.set_cons_succ] at hF34)
            rw [(vlL_4 (k := k) (n := 0) (t := ⟨#[]⟩) (a := .slice none 0 0) (b := .slice Ai i ci'))] at hF34
            refine hK.out _ _ (⟨hF34.blk (i := 5) rfl, hrk.below hF34.below⟩) (fun _ => ?_)
            clear hK K
            (try simp only [Act.put, List.setIfInBounds_toArray, List.set_cons_zero, List.set_cons_succ])
            refine wpAnyH_done (by kernel_rfl) ?_ _
            go_wp2_with fail
            go_roundg (nk - (i + 1))
            case rel => exact ⟨i + 1, A33, c33, _, _, by omega, box rfl, by go_num, hc33, hTn31, hF34.tail⟩
            case measure => have := hkf.out; omega
          refine AllReadyH.cons (by simp only [List.getElem?_toArray, List.getElem?_cons_zero, List.getElem?_cons_succ]; rfl) (fun K hK => ?_) ?_
          · refine stp (by with_unfolding_all rfl) (wp_fbs1 T_rvals hF31 (by with_unfolding_all rfl) (ds := cs31) (by with_unfolding_all rfl) hvt31.len (by decide) ?_)
            intro w32 g32 hF32 hz32
            refine hK.out _ _ (⟨hF32.blk (i := 5) rfl, hrk.below hF32.below⟩) (fun _ => ?_)
            clear hK K
            (try simp only [Act.put, List.setIfInBounds_toArray, List.set_cons_zero, List.set_cons_succ])
            refine rdy1 1 (fun K hK => ?_)
            refine stp (by with_unfolding_all rfl) (wp_fld hF32 (i := 1) rfl Tryd.underlying31 rfl (by with_unfolding_all exact ⟨_, rfl, rfl⟩) rfl ?_)
            refine hK.out _ _ (⟨hF32.blk (i := 5) rfl, hrk.below hF32.below⟩) (fun _ => ?_)
            clear hK K
            (try simp only [Act.put, List.setIfInBounds_toArray, List.set_cons_zero, List.set_cons_succ])
            refine rdy1 9 (fun K hK => ?_)
            refine stp (by with_unfolding_all rfl) (wp_fappG T_rvals hF32 (i := 2) rfl (Nat.le_refl _) (hF32.rdOwn (i := 0) rfl) hvt31.one (by with_unfolding_all exact ⟨_, _, rfl, rfl, rfl⟩) (by unfold maxLen; omega) (by omega) ?_)
            intro v33 w33 hF33 hz33
            (try simp only [List.set_cons_zero, List.set_cons_succ] at hF33)
            obtain ⟨A33, c33, rfl, hc33⟩ := hF33.ownParts (i := 2) rfl
            refine hK.out _ _ (⟨hF33.blk (i := 5) rfl, hrk.below hF33.below⟩) (fun _ => ?_)
            clear hK K
            (try simp only [Act.put, List.setIfInBounds_toArray, List.set_cons_zero, List.set_cons_succ])
            refine tkp 10 ⟨hF33.blk (i := 5) rfl, hrk.below hF33.below⟩ ?_
            (try simp only [Act.put, List.setIfInBounds_toArray, List.set_cons_zero, List.set_cons_succ])
            refine rdy1 11 (fun K hK => ?_)
            refine stp (by with_unfolding_all rfl) (wp_fst hF33 (i := 1) rfl (v := .slice A33 (i + 1) c33) (by with_unfolding_all exact ⟨_, _, rfl, rfl, rfl⟩) (by kernel_rfl) rfl rfl (by rw [vlL_len]; decide) ?_)
            intro w34 hF34 hz34
            (try simp only [List.set_cons_zero, List.set_cons_succ] at hF34)
            rw [(vlL_4 (k := k) (n := 0) (t := ⟨#[]⟩) (a := .slice none 0 0) (b := .slice Ai i ci'))] at hF34
            refine hK.out _ _ (⟨hF34.blk (i := 5) rfl, hrk.below hF34.below⟩) (fun _ => ?_)
            clear hK K
            (try simp only [Act.put, List.setIfInBounds_toArray, List.set_cons_zero, List.set_cons_succ])
            refine wpAnyH_done (by kernel_rfl) ?_ _
            go_wp2_with fail
            go_roundg (nk - (i + 1))
            case rel => exact ⟨i + 1, A33, c33, _, _, by omega, box rfl, by go_num, hc33, hTn31, hF34.tail⟩
            case measure => have := hkf.out; omega
          exact AllReadyH.nil
        exact AllReadyH.nil
      · obtain rfl : nk = i := by omega
        have hall : ks.take nk = ks := List.take_of_length_le (by rw [hnk.out]; exact Nat.le_refl _)
        rw [hall] at hT
        clear hall hlt hkf
        by_cases hk6 : k = 6
        · subst hk6
          have hjb : Box (jBare (.mk 6 n t ns ks) = .mk 6 0 [] ns (ks.map jBare)) := box (by rw [jBare, jBareL_map]; rfl)
          go_wp2_with (first | (with_reducible refine lst (by with_unfolding_all rfl) (wp_fld4 hF Tryd.underlying31 rfl (by with_unfolding_all exact ⟨_, rfl, rfl⟩) rfl ?_)) | (with_reducible refine lst (by with_unfolding_all rfl) (wp_fld4 hF Tryd.underlying3 rfl (by with_unfolding_all exact ⟨_, rfl, rfl⟩) rfl ?_)))
          go_loopg [5] nn (fun gk s wr => ∃ (j : Nat) (Aj : Option Addr) (cj : Nat), j ≤ nn ∧ Box (gk = nn - j) ∧ s = .int .i64 (j : Int) ∧ j ≤ cj ∧ Fr [] w wr (.blk g3 33 (vlL 6 0 ⟨#[]⟩ (.slice Aj j cj) (.slice Ai nk ci')) :: .own w.heap.size 33 5 (.slice Ai nk ci') nk xs :: .own w.heap.size 9 1 (.slice Aj j cj) j ((ns.take j).map strv) :: .blk g2 33 vl0 :: .blk g1 33 (vlL 6 n ⟨t.toArray⟩ (.slice An nn cn) (.slice Ak nk ck)) :: TE))
          case atStart => exact ⟨0, none, 0, by omega, box rfl, rfl, by omega, hF⟩
          case round =>
            clear hF
            obtain ⟨j, Aj, cj, hj, hk, rfl, hcj, hF⟩ := hrel
            have hkf : Box (_ = nn - j) := hk
            clear hk
            by_cases hlt : j < nn
            · obtain ⟨s, hs⟩ : ∃ s, ns[j]? = some s := ⟨ns[j]'(by rw [hnn.out]; exact hlt), by simp⟩
              have hss : Box ((ns.map strv)[j]? = some (.string ⟨s.toArray⟩)) := box (by rw [List.getElem?_map, hs]; rfl)
              have hsn : Box ((ns.take j).map strv ++ [.string ⟨s.toArray⟩] = (ns.take (j + 1)).map strv) := box (by rw [List.take_add_one, hs, List.map_append]; rfl)
              replace hs := box hs
              go_upto_region 15 with (first | (with_reducible refine lst (by with_unfolding_all rfl) (wp_fld4 hF Tryd.underlying24 rfl (by with_unfolding_all exact ⟨_, rfl, rfl⟩) rfl ?_)))
              have hFd := hF.drew
              refine wp_region_held (S := fun w' => w'.heap[g1]? = some (.cells (List.toArray (vlL 6 n ⟨t.toArray⟩ (.slice An nn cn) (.slice Ak nk ck))) 33 (0, 0)) ∧ Rd w' (· < w.heap.size) An 1 nn (ns.map strv)) (by kernel_rfl) ?_
              change wpAnyH _ _ _ _ _ _ _ _ (World.drew _)
              refine tkp 0 ⟨hFd.blk (i := 4) rfl, hrn.below hFd.below⟩ ?_
              (try simp only [Act.put, List.setIfInBounds_toArray, List.set_cons_zero, List.set_cons_succ])
              refine tkp 2 ⟨hFd.blk (i := 4) rfl, hrn.below hFd.below⟩ ?_
              (try simp only [Act.put, List.setIfInBounds_toArray, List.set_cons_zero, List.set_cons_succ])
              refine tky 3 (y := yi_fld (by with_unfolding_all rfl) (fun _ h => h.1) Tryd.underlying24 rfl (by with_unfolding_all exact ⟨_, rfl, rfl⟩) rfl) (s := ⟨hFd.blk (i := 4) rfl, hrn.below hFd.below⟩) (h := ?_)
              (try simp only [Act.put, List.setIfInBounds_toArray, List.set_cons_zero, List.set_cons_succ])
              refine tkp 4 ⟨hFd.blk (i := 4) rfl, hrn.below hFd.below⟩ ?_
              (try simp only [Act.put, List.setIfInBounds_toArray, List.set_cons_zero, List.set_cons_succ])
              refine tky 5 (y := yi_ix (by with_unfolding_all rfl) T_strs (fun h => hrn.some_ h) (k := j) (by with_unfolding_all exact ⟨_, _, _, _, rfl, rfl, rfl⟩) rfl (by omega)) (s := ⟨hFd.blk (i := 4) rfl, hrn.below hFd.below⟩) (h := ?_)
              (try simp only [Act.put, List.setIfInBounds_toArray, List.set_cons_zero, List.set_cons_succ])
              refine tky 6 (y := yi_ld (by with_unfolding_all rfl) (j := j * 1) (fun _ h => h.2) Tryd.underlying9 rfl (by with_unfolding_all exact ⟨_, rfl, rfl⟩) (by rw [Nat.mul_one]; exact hss.out)) (s := ⟨hFd.blk (i := 4) rfl, hrn.below hFd.below⟩) (h := ?_)
              (try simp only [Act.put, List.setIfInBounds_toArray, List.set_cons_zero, List.set_cons_succ])
              refine wpAnyH_ready (rs := [1, 7]) (by kernel_rfl) (by simp) ?_
              refine AllReadyH.cons (by simp only [List.getElem?_toArray, List.getElem?_cons_zero, List.getElem?_cons_succ]; rfl) (fun K hK => ?_) ?_
              · refine stp (by with_unfolding_all rfl) (wp_fld hFd (i := 0) rfl Tryd.underlying24 rfl (by with_unfolding_all exact ⟨_, rfl, rfl⟩) rfl ?_)
                refine hK.out _ _ (⟨hFd.blk (i := 4) rfl, hrn.below hFd.below⟩) (fun _ => ?_)
                clear hK K
                (try simp only [Act.put, List.setIfInBounds_toArray, List.set_cons_zero, List.set_cons_succ])
                refine rdy1 7 (fun K hK => ?_)
                refine stp (by with_unfolding_all rfl) (wp_fbsl T_strs hFd (vs := [.string ⟨s.toArray⟩]) (by with_unfolding_all rfl) (by with_unfolding_all rfl) (by with_unfolding_all rfl) (by decide) (by simp [Value.cells]) ?_)
                intro w31 g31 hF31 hz31
                refine hK.out _ _ (⟨hF31.blk (i := 5) rfl, hrn.below hF31.below⟩) (fun _ => ?_)
                clear hK K
                (try simp only [Act.put, List.setIfInBounds_toArray, List.set_cons_zero, List.set_cons_succ])
                refine rdy1 8 (fun K hK => ?_)
                refine stp (by with_unfolding_all rfl) (wp_fappG T_strs hF31 (i := 3) rfl (Nat.le_refl _) (hF31.rdOwn (i := 0) rfl) (by intro u hu; simp only [List.mem_singleton] at hu; subst hu; rfl) (by with_unfolding_all exact ⟨_, _, rfl, rfl, rfl⟩) (by unfold maxLen; omega) (by omega) ?_)
                intro v32 w32 hF32 hz32
                (try simp only [List.set_cons_zero, List.set_cons_succ] at hF32)
                obtain ⟨A32, c32, rfl, hc32⟩ := hF32.ownParts (i := 3) rfl
                refine hK.out _ _ (⟨hF32.blk (i := 5) rfl, hrn.below hF32.below⟩) (fun _ => ?_)
                clear hK K
                (try simp only [Act.put, List.setIfInBounds_toArray, List.set_cons_zero, List.set_cons_succ])
                refine tkp 9 ⟨hF32.blk (i := 5) rfl, hrn.below hF32.below⟩ ?_
                (try simp only [Act.put, List.setIfInBounds_toArray, List.set_cons_zero, List.set_cons_succ])
                refine rdy1 10 (fun K hK => ?_)
                refine stp (by with_unfolding_all rfl) (wp_fst hF32 (i := 1) rfl (v := .slice A32 (j + 1) c32) (by with_unfolding_all exact ⟨_, _, rfl, rfl, rfl⟩) (by kernel_rfl) rfl rfl (by rw [vlL_len]; decide) ?_)
                intro w33 hF33 hz33
                (try simp only [List.set_cons_zero, List.set_cons_succ] at hF33)
                rw [(vlL_3 (k := 6) (n := 0) (t := ⟨#[]⟩) (a := .slice Aj j cj) (b := .slice Ai nk ci'))] at hF33
                refine hK.out _ _ (⟨hF33.blk (i := 5) rfl, hrn.below hF33.below⟩) (fun _ => ?_)
                clear hK K
                (try simp only [Act.put, List.setIfInBounds_toArray, List.set_cons_zero, List.set_cons_succ])
                refine wpAnyH_done (by kernel_rfl) ?_ _
                go_wp2_with fail
                go_roundg (nn - (j + 1))
                case rel => exact ⟨j + 1, A32, c32, by omega, box rfl, by go_num, hc32, by have h5 := hF33.tail; rw [hsn.out] at h5; exact h5⟩
                case measure => have := hkf.out; omega
              refine AllReadyH.cons (by simp only [List.getElem?_toArray, List.getElem?_cons_zero, List.getElem?_cons_succ]; rfl) (fun K hK => ?_) ?_
              · refine stp (by with_unfolding_all rfl) (wp_fbsl T_strs hFd (vs := [.string ⟨s.toArray⟩]) (by with_unfolding_all rfl) (by with_unfolding_all rfl) (by with_unfolding_all rfl) (by decide) (by simp [Value.cells]) ?_)
                intro w31 g31 hF31 hz31
                refine hK.out _ _ (⟨hF31.blk (i := 5) rfl, hrn.below hF31.below⟩) (fun _ => ?_)
                clear hK K
                (try simp only [Act.put, List.setIfInBounds_toArray, List.set_cons_zero, List.set_cons_succ])
                refine rdy1 1 (fun K hK => ?_)
                refine stp (by with_unfolding_all rfl) (wp_fld hF31 (i := 1) rfl Tryd.underlying24 rfl (by with_unfolding_all exact ⟨_, rfl, rfl⟩) rfl ?_)
                refine hK.out _ _ (⟨hF31.blk (i := 5) rfl, hrn.below hF31.below⟩) (fun _ => ?_)
                clear hK K
                (try simp only [Act.put, List.setIfInBounds_toArray, List.set_cons_zero, List.set_cons_succ])
                refine rdy1 8 (fun K hK => ?_)
                refine stp (by with_unfolding_all rfl) (wp_fappG T_strs hF31 (i := 3) rfl (Nat.le_refl _) (hF31.rdOwn (i := 0) rfl) (by intro u hu; simp only [List.mem_singleton] at hu; subst hu; rfl) (by with_unfolding_all exact ⟨_, _, rfl, rfl, rfl⟩) (by unfold maxLen; omega) (by omega) ?_)
                intro v32 w32 hF32 hz32
                (try simp only [List.set_cons_zero, List.set_cons_succ] at hF32)
                obtain ⟨A32, c32, rfl, hc32⟩ := hF32.ownParts (i := 3) rfl
                refine hK.out _ _ (⟨hF32.blk (i := 5) rfl, hrn.below hF32.below⟩) (fun _ => ?_)
                clear hK K
                (try simp only [Act.put, List.setIfInBounds_toArray, List.set_cons_zero, List.set_cons_succ])
                refine tkp 9 ⟨hF32.blk (i := 5) rfl, hrn.below hF32.below⟩ ?_
                (try simp only [Act.put, List.setIfInBounds_toArray, List.set_cons_zero, List.set_cons_succ])
                refine rdy1 10 (fun K hK => ?_)
                refine stp (by with_unfolding_all rfl) (wp_fst hF32 (i := 1) rfl (v := .slice A32 (j + 1) c32) (by with_unfolding_all exact ⟨_, _, rfl, rfl, rfl⟩) (by kernel_rfl) rfl rfl (by rw [vlL_len]; decide) ?_)
                intro w33 hF33 hz33
                (try simp only [List.set_cons_zero, List.set_cons_succ] at hF33)
                rw [(vlL_3 (k := 6) (n := 0) (t := ⟨#[]⟩) (a := .slice Aj j cj) (b := .slice Ai nk ci'))] at hF33
                refine hK.out _ _ (⟨hF33.blk (i := 5) rfl, hrn.below hF33.below⟩) (fun _ => ?_)
                clear hK K
                (try simp only [Act.put, List.setIfInBounds_toArray, List.set_cons_zero, List.set_cons_succ])
                refine wpAnyH_done (by kernel_rfl) ?_ _
                go_wp2_with fail
                go_roundg (nn - (j + 1))
                case rel => exact ⟨j + 1, A32, c32, by omega, box rfl, by go_num, hc32, by have h5 := hF33.tail; rw [hsn.out] at h5; exact h5⟩
                case measure => have := hkf.out; omega
              exact AllReadyH.nil
            · obtain rfl : nn = j := by omega
              have hall : ns.take nn = ns := List.take_of_length_le (by rw [hnn.out]; exact Nat.le_refl _)
              rw [hall] at hF
              clear hall hlt hkf
              go_wp2_with (first | (with_reducible refine lst (by with_unfolding_all rfl) (wp_fld4 hF Tryd.underlying24 rfl (by with_unfolding_all exact ⟨_, rfl, rfl⟩) rfl ?_)) | (with_reducible refine lst (by with_unfolding_all rfl) (wp_fldA0 hF Tryd.underlying33 rfl (by with_unfolding_all exact ⟨_, rfl, rfl⟩) (ds := (vlL 6 0 ⟨#[]⟩ (.slice Aj nn cj) (.slice Ai nk ci'))) (by rw [vlL_len]; kernel_rfl) (take_all _) ?_)) | ((with_reducible refine lst (by with_unfolding_all rfl) (wp_fstA3 hF (by with_unfolding_all exact ⟨_, _, rfl, rfl, rfl⟩) (by rw [vlL_len]; kernel_rfl) vlL_one vlL_fit vlL_spl ?_)); intro w9 hF9 hz9))
              exact bodyPost_ret (results_cellF rfl _ hF9 (i := 3) rfl rfl Tryd.underlying33 rfl (by rw [vlL_len]; kernel_rfl)) rfl (by
                rw [hjb.out]
                refine ⟨_, _, rfl, VT.mk_ (ns := ns) hcj hci' hT.out, ?_⟩
                have h1 := hF9.toRd (i := 1) rfl
                simp only [List.set_cons_succ, List.set_cons_zero] at h1
                have h2 := h1.toRd (i := 2) rfl
                simp only [List.set_cons_succ, List.set_cons_zero] at h2
                refine (h2.sub (es' := .rd Ai 5 nk xs :: .rd Aj 1 nn ((ns).map strv) :: TE) ?_).perm (List.Perm.swap _ _ _)
                exact (((((List.Sublist.refl _).cons _).cons _).cons_cons _).cons_cons _).cons _)
        · have d6 : (k == 6) = false := by rw [beq_eq_false_iff_ne]; exact hk6
          have hjb : Box (jBare (.mk k n t ns ks) = .mk k 0 [] [] (ks.map jBare)) := box (by rw [jBare, jBareL_map, if_neg hk3.out, if_neg hk4.out, if_neg hk6, if_pos hk5.out])
          have hcj : 0 ≤ 0 := Nat.le_refl 0
          replace hk6 := box hk6
          go_wp2_with (first | (with_reducible refine lst (by with_unfolding_all rfl) (wp_fld4 hF Tryd.underlying31 rfl (by with_unfolding_all exact ⟨_, rfl, rfl⟩) rfl ?_)) | (with_reducible refine lst (by with_unfolding_all rfl) (wp_fld4 hF Tryd.underlying3 rfl (by with_unfolding_all exact ⟨_, rfl, rfl⟩) rfl ?_)) | (with_reducible refine lst (by with_unfolding_all rfl) (wp_fldA0 hF Tryd.underlying33 rfl (by with_unfolding_all exact ⟨_, rfl, rfl⟩) (ds := (vlL k 0 ⟨#[]⟩ (.slice none 0 0) (.slice Ai nk ci'))) (by rw [vlL_len]; kernel_rfl) (take_all _) ?_)) | ((with_reducible refine lst (by with_unfolding_all rfl) (wp_fstA3 hF (by with_unfolding_all exact ⟨_, _, rfl, rfl, rfl⟩) (by rw [vlL_len]; kernel_rfl) vlL_one vlL_fit vlL_spl ?_)); intro w9 hF9 hz9))
          exact bodyPost_ret (results_cellF rfl _ hF9 (i := 3) rfl rfl Tryd.underlying33 rfl (by rw [vlL_len]; kernel_rfl)) rfl (by
            rw [hjb.out]
            refine ⟨_, _, rfl, VT.mk_ (ns := []) hcj hci' hT.out, ?_⟩
            have h1 := hF9.toRd (i := 1) rfl
            simp only [List.set_cons_succ, List.set_cons_zero] at h1
            have h2 := h1.toRd (i := 2) rfl
            simp only [List.set_cons_succ, List.set_cons_zero] at h2
            refine (h2.sub (es' := .rd Ai 5 nk xs :: .rd none 1 0 (([]).map strv) :: TE) ?_).perm (List.Perm.swap _ _ _)
            exact (((((List.Sublist.refl _).cons _).cons _).cons_cons _).cons_cons _).cons _)

end Go.Proofs.YtdekogmegdhjoaaDoor

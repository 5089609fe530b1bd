/-
  Layer 6: the laws' cut, walked.
-/
import Derived.Test.YtdekogmegdhjoaaDoorM17
import Derived.Test.YtdekogmegdhjoaaDoorM04
namespace Go.Proofs.YtdekogmegdhjoaaDoor
open Go.RowKit
set_option linter.unusedSimpArgs false


set_option maxRecDepth 20000 in
set_option maxHeartbeats 12800000 in
theorem cut_any (d : Nat) : ∀ (v : JV) (cs : List Value) (w : World) (gl m B : Nat), d ≤ 1000 → m ≤ 100000 → VRd w (· < B) v cs → JSm v → B ≤ gl → B ≤ w.heap.size → w.heap[gl]? = some (.cells [Value.int .i64 (m : Int)].toArray 3 (0, 0)) →
    Calls Tryd.prog 17 #[.agg cs.toArray, .int .i64 (d : Int), .pointer (some ⟨gl, 0, none⟩)] w fun e w' => ∃ cs' es', e = .returned (.agg cs'.toArray) ∧ VC w B (jCutN d v m).1 cs' es' ∧ Fr [gl] w w' (.blk gl 3 [.int .i64 ((jCutN d v m).2 : Int)] :: es') := by
  induction d with
  | zero =>
    intro v cs w gl m B hd hm hv hsm hgl hB hh
    obtain ⟨k, n, t, ns, ks⟩ := v
    rw [VRd] at hv
    obtain ⟨An, nn, cn, Ak, nk, ck, xk, hcn, hck, rfl, hrn, hrk, hvk⟩ := hv
    rw [JSm] at hsm
    obtain ⟨hs1, hs2, hs3⟩ := hsm
    have hnk : ks.length = nk := by have := hrk.len; rw [hvk.len] at this; omega
    rw [hnk] at hs2
    replace hnk := box hnk
    replace hvk := box hvk
    replace hs1 := box hs1
    have hF0 := Fr.one hh
    clear hh
    go_enter Tryd.func17, Tryd.ntmps17
    go_upto_region 3 with (first | ((with_reducible refine lst (by with_unfolding_all rfl) (wp_fbox hF0 (cs := (vlL k n ⟨t.toArray⟩ (.slice An nn cn) (.slice Ak nk ck))) rfl (by with_unfolding_all rfl) (by with_unfolding_all rfl) ?_)); intro w1 g1 hF1 hz1) | ((with_reducible refine lst (by with_unfolding_all rfl) (wp_falloc hF1 (cs := vl0) (z := .agg (List.toArray (vl0))) rfl (by kernel_rfl) (by with_unfolding_all rfl) ?_)); intro w2 g2 hF2 hz2) | (with_reducible refine lst (by with_unfolding_all rfl) (wp_fldA1 hF2 Tryd.underlying33 rfl (by with_unfolding_all exact ⟨_, rfl, rfl⟩) (ds := (vlL k n ⟨t.toArray⟩ (.slice An nn cn) (.slice Ak nk ck))) (by rw [vlL_len]; kernel_rfl) (take_all _) ?_)) | ((with_reducible refine lst (by with_unfolding_all rfl) (wp_falloc hF2 (cs := vl0) (z := .agg (List.toArray (vl0))) rfl (by kernel_rfl) (by with_unfolding_all rfl) ?_)); intro w3 g3 hF3 hz3) | ((with_reducible refine lst (by with_unfolding_all rfl) (wp_fstA0 hF3 (by with_unfolding_all exact ⟨_, _, rfl, rfl, rfl⟩) (by rw [vlL_len]; kernel_rfl) vlL_one vlL_fit vlL_spl ?_)); intro w4 hF4 hz4) | ((with_reducible refine lst (by with_unfolding_all rfl) (wp_fst0 hF4 (by with_unfolding_all exact ⟨_, _, rfl, rfl, rfl⟩) (by kernel_rfl) rfl rfl (by rw [vlL_len]; decide) vlL_4 ?_)); intro w5 hF5 hz5))
    have hF6 := (hF5.none_ w.heap.size 33 5).picks [1, 0, 4, 2, 3] (fs := (.blk g3 33 (vlL k n ⟨t.toArray⟩ (.slice An nn cn) (.slice none 0 0)) :: .own w.heap.size 33 5 (.slice none 0 0) 0 [] :: .blk gl 3 [.int .i64 (m : Int)] :: .blk g2 33 vl0 :: .blk g1 33 (vlL k n ⟨t.toArray⟩ (.slice An nn cn) (.slice Ak nk ck)) :: [])) rfl (by decide)
    clear hF0 hF1 hF2 hF3 hF4 hF5
    go_wp2_with fail
    go_loopg [8] nk (fun gk s wr => ∃ (i : Nat) (Ai : Option Addr) (ci' : Nat) (xs : List Value) (ys : List JV) (TE : List Ent) (m' : Nat), i ≤ nk ∧ Box (gk = nk - i) ∧ s = .int .i64 (i : Int) ∧ i ≤ ci' ∧ i = 0 ∧ m' ≤ m ∧ Box (VCL w B ys xs TE) ∧ Box ((([] : List JV), m) = (ys ++ [], m')) ∧ Fr [gl] w wr (.blk g3 33 (vlL k n ⟨t.toArray⟩ (.slice An nn cn) (.slice Ai i ci')) :: .own w.heap.size 33 5 (.slice Ai i ci') i xs :: .blk gl 3 [.int .i64 (m' : Int)] :: .blk g2 33 vl0 :: .blk g1 33 (vlL k n ⟨t.toArray⟩ (.slice An nn cn) (.slice Ak nk ck)) :: TE))
    case atStart => exact ⟨0, none, 0, [], [], [], m, by omega, box rfl, rfl, by omega, rfl, Nat.le_refl _, box VCL.nil, box (by simp), hF6⟩
    case round =>
      clear hF6
      obtain ⟨i, Ai, ci', xs, ys, TE, m', hi, hk, rfl, hci', h0, hm', hT, hJ, hF⟩ := hrel
      have hkf : Box (gk = nk - i) := hk
      clear hk
      subst h0
      by_cases hz0 : 0 < nk
      · go_wp2_with (first | (with_reducible refine lst (by with_unfolding_all rfl) (wp_fld4 hF Tryd.underlying31 rfl (by with_unfolding_all exact ⟨_, rfl, rfl⟩) rfl ?_)) | (with_reducible refine lst (by with_unfolding_all rfl) (wp_fld2 hF Tryd.underlying3 rfl (by with_unfolding_all exact ⟨_, rfl, rfl⟩) rfl ?_)) | (with_reducible refine lst (by with_unfolding_all rfl) (wp_fldA0 hF Tryd.underlying33 rfl (by with_unfolding_all exact ⟨_, rfl, rfl⟩) (ds := (vlL k n ⟨t.toArray⟩ (.slice An nn cn) (.slice Ai 0 ci'))) (by rw [vlL_len]; kernel_rfl) (take_all _) ?_)) | ((with_reducible refine lst (by with_unfolding_all rfl) (wp_fstA3 hF (by with_unfolding_all exact ⟨_, _, rfl, rfl, rfl⟩) (by rw [vlL_len]; kernel_rfl) vlL_one vlL_fit vlL_spl ?_)); intro w9 hF9 hz9))
        exact bodyPost_ret (results_cellF rfl _ hF9 (i := 3) rfl rfl Tryd.underlying33 rfl (by rw [vlL_len]; kernel_rfl)) rfl (by
          have hjc : jCutN (0) (.mk k n t ns ks) m = (.mk k n t ns ys, m') := by have h := hJ.out; simp only [List.append_nil, Prod.mk.injEq] at h; rw [jCutN, ← h.1, ← h.2]
          rw [hjc]
          refine ⟨_, _, rfl, VC.mk_ hcn hci' hrn hT.out, ?_⟩
          have h1 := hF9.toRd (i := 1) rfl
          simp only [List.set_cons_succ, List.set_cons_zero] at h1
          refine (h1.sub (es' := .rd Ai 5 0 xs :: .blk gl 3 [.int .i64 (m' : Int)] :: TE) ?_).perm (List.Perm.swap _ _ _)
          exact (((List.Sublist.refl _).cons _).cons _).cons_cons _ |>.cons_cons _ |>.cons _)
      · go_wp2_with (first | (with_reducible refine lst (by with_unfolding_all rfl) (wp_fld4 hF Tryd.underlying31 rfl (by with_unfolding_all exact ⟨_, rfl, rfl⟩) rfl ?_)) | (with_reducible refine lst (by with_unfolding_all rfl) (wp_fld2 hF Tryd.underlying3 rfl (by with_unfolding_all exact ⟨_, rfl, rfl⟩) rfl ?_)) | (with_reducible refine lst (by with_unfolding_all rfl) (wp_fldA0 hF Tryd.underlying33 rfl (by with_unfolding_all exact ⟨_, rfl, rfl⟩) (ds := (vlL k n ⟨t.toArray⟩ (.slice An nn cn) (.slice Ai 0 ci'))) (by rw [vlL_len]; kernel_rfl) (take_all _) ?_)) | ((with_reducible refine lst (by with_unfolding_all rfl) (wp_fstA3 hF (by with_unfolding_all exact ⟨_, _, rfl, rfl, rfl⟩) (by rw [vlL_len]; kernel_rfl) vlL_one vlL_fit vlL_spl ?_)); intro w9 hF9 hz9))
        exact bodyPost_ret (results_cellF rfl _ hF9 (i := 3) rfl rfl Tryd.underlying33 rfl (by rw [vlL_len]; kernel_rfl)) rfl (by
          have hjc : jCutN (0) (.mk k n t ns ks) m = (.mk k n t ns ys, m') := by have h := hJ.out; simp only [List.append_nil, Prod.mk.injEq] at h; rw [jCutN, ← h.1, ← h.2]
          rw [hjc]
          refine ⟨_, _, rfl, VC.mk_ hcn hci' hrn hT.out, ?_⟩
          have h1 := hF9.toRd (i := 1) rfl
          simp only [List.set_cons_succ, List.set_cons_zero] at h1
          refine (h1.sub (es' := .rd Ai 5 0 xs :: .blk gl 3 [.int .i64 (m' : Int)] :: TE) ?_).perm (List.Perm.swap _ _ _)
          exact (((List.Sublist.refl _).cons _).cons _).cons_cons _ |>.cons_cons _ |>.cons _)
  | succ d ih =>
    intro v cs w gl m B hd hm hv hsm hgl hB hh
    obtain ⟨k, n, t, ns, ks⟩ := v
    rw [VRd] at hv
    obtain ⟨An, nn, cn, Ak, nk, ck, xk, hcn, hck, rfl, hrn, hrk, hvk⟩ := hv
    rw [JSm] at hsm
    obtain ⟨hs1, hs2, hs3⟩ := hsm
    have hnk : ks.length = nk := by have := hrk.len; rw [hvk.len] at this; omega
    rw [hnk] at hs2
    replace hnk := box hnk
    replace hvk := box hvk
    replace hs1 := box hs1
    have hF0 := Fr.one hh
    clear hh
    go_enter Tryd.func17, Tryd.ntmps17
    go_upto_region 3 with (first | ((with_reducible refine lst (by with_unfolding_all rfl) (wp_fbox hF0 (cs := (vlL k n ⟨t.toArray⟩ (.slice An nn cn) (.slice Ak nk ck))) rfl (by with_unfolding_all rfl) (by with_unfolding_all rfl) ?_)); intro w1 g1 hF1 hz1) | ((with_reducible refine lst (by with_unfolding_all rfl) (wp_falloc hF1 (cs := vl0) (z := .agg (List.toArray (vl0))) rfl (by kernel_rfl) (by with_unfolding_all rfl) ?_)); intro w2 g2 hF2 hz2) | (with_reducible refine lst (by with_unfolding_all rfl) (wp_fldA1 hF2 Tryd.underlying33 rfl (by with_unfolding_all exact ⟨_, rfl, rfl⟩) (ds := (vlL k n ⟨t.toArray⟩ (.slice An nn cn) (.slice Ak nk ck))) (by rw [vlL_len]; kernel_rfl) (take_all _) ?_)) | ((with_reducible refine lst (by with_unfolding_all rfl) (wp_falloc hF2 (cs := vl0) (z := .agg (List.toArray (vl0))) rfl (by kernel_rfl) (by with_unfolding_all rfl) ?_)); intro w3 g3 hF3 hz3) | ((with_reducible refine lst (by with_unfolding_all rfl) (wp_fstA0 hF3 (by with_unfolding_all exact ⟨_, _, rfl, rfl, rfl⟩) (by rw [vlL_len]; kernel_rfl) vlL_one vlL_fit vlL_spl ?_)); intro w4 hF4 hz4) | ((with_reducible refine lst (by with_unfolding_all rfl) (wp_fst0 hF4 (by with_unfolding_all exact ⟨_, _, rfl, rfl, rfl⟩) (by kernel_rfl) rfl rfl (by rw [vlL_len]; decide) vlL_4 ?_)); intro w5 hF5 hz5))
    have hF6 := (hF5.none_ w.heap.size 33 5).picks [1, 0, 4, 2, 3] (fs := (.blk g3 33 (vlL k n ⟨t.toArray⟩ (.slice An nn cn) (.slice none 0 0)) :: .own w.heap.size 33 5 (.slice none 0 0) 0 [] :: .blk gl 3 [.int .i64 (m : Int)] :: .blk g2 33 vl0 :: .blk g1 33 (vlL k n ⟨t.toArray⟩ (.slice An nn cn) (.slice Ak nk ck)) :: [])) rfl (by decide)
    clear hF0 hF1 hF2 hF3 hF4 hF5
    go_wp2_with fail
    go_loopg [8] nk (fun gk s wr => ∃ (i : Nat) (Ai : Option Addr) (ci' : Nat) (xs : List Value) (ys : List JV) (TE : List Ent) (m' : Nat), i ≤ nk ∧ Box (gk = nk - i) ∧ s = .int .i64 (i : Int) ∧ i ≤ ci' ∧ True ∧ m' ≤ m ∧ Box (VCL w B ys xs TE) ∧ Box (jCutL (jCutN d) ks m = (ys ++ (jCutL (jCutN d) (ks.drop i) m').1, (jCutL (jCutN d) (ks.drop i) m').2)) ∧ Fr [gl] w wr (.blk g3 33 (vlL k n ⟨t.toArray⟩ (.slice An nn cn) (.slice Ai i ci')) :: .own w.heap.size 33 5 (.slice Ai i ci') i xs :: .blk gl 3 [.int .i64 (m' : Int)] :: .blk g2 33 vl0 :: .blk g1 33 (vlL k n ⟨t.toArray⟩ (.slice An nn cn) (.slice Ak nk ck)) :: TE))
    case atStart => exact ⟨0, none, 0, [], [], [], m, by omega, box rfl, rfl, by omega, trivial, Nat.le_refl _, box VCL.nil, box (by simp), hF6⟩
    case round =>
      clear hF6
      obtain ⟨i, Ai, ci', xs, ys, TE, m', hi, hk, rfl, hci', h0, hm', hT, hJ, hF⟩ := hrel
      have hkf : Box (gk = nk - i) := hk
      clear hk
      by_cases hlt : i < nk
      · by_cases hm0 : 0 < m'
        · obtain ⟨vi, hvi⟩ : ∃ vi, ks[i]? = some vi := ⟨ks[i]'(by rw [hnk.out]; exact hlt), by simp⟩
          obtain ⟨ci, hci, hvri⟩ := hvk.out.at hvi
          have hcil := box hvri.len
          replace hci := box hci
          have hsi := hs3.at hvi
          obtain ⟨m1, rfl⟩ : ∃ m1, m' = m1 + 1 := ⟨m' - 1, by omega⟩
          have ihc := box (fun (w' : World) (es : List Ent) (hF' : Fr [gl] w w' es) (hh : w'.heap[gl]? = some (.cells [Value.int .i64 (m1 : Int)].toArray 3 (0, 0))) => ih vi ci w' gl m1 B (by omega) (by omega) (hvri.onG (hF'.belowG hgl hB)) hsi hgl (Nat.le_trans hB hF'.size) hh)
          have hT2 : Box (∀ (w' : World) (es : List Ent), Fr [gl] w w' es → ∀ c e, VC w' B (jCutN d vi m1).1 c e → VCL w B (ys ++ [(jCutN d vi m1).1]) (xs ++ c) (TE ++ e)) := box (fun w' es hF' c e h => hT.out.snoc (h.keep fun k hk => ((hF'.belowG hgl hB).block k hk).symm))
          have hJ2 := box (jCutL_step hvi hJ.out)
          have hle := jCutN_le d vi m1
          obtain ⟨m2, hm2⟩ : ∃ m2, m2 = (jCutN d vi m1).2 := ⟨_, rfl⟩
          rw [← hm2] at hle
          replace hm2 := box hm2
          have hwp := wrap64_pred (d := d) (by omega)
          replace hvi := box hvi
          replace hvri := box hvri
          replace hsi := box hsi
          replace hs3 := box hs3
          go_upto_region 7 with (first | (with_reducible refine lst (by with_unfolding_all rfl) (wp_fld4 hF Tryd.underlying31 rfl (by with_unfolding_all exact ⟨_, rfl, rfl⟩) rfl ?_)) | (with_reducible refine lst (by with_unfolding_all rfl) (wp_fld2 hF Tryd.underlying3 rfl (by with_unfolding_all exact ⟨_, rfl, rfl⟩) rfl ?_)) | ((with_reducible refine lst (by with_unfolding_all rfl) (wp_fst2 hF (by with_unfolding_all exact ⟨_, _, rfl, rfl, rfl⟩) (by kernel_rfl) rfl rfl (by first | decide | (simp; done) | (simp; omega)) (spl1' _ (.int .i64 ((m1 : Nat) : Int))) ?_)); intro w7 hF7 hz7))
          have hFd := hF7.drew
          refine wp_region_held (S := fun w' => w'.heap[g1]? = some (.cells (List.toArray (vlL k n ⟨t.toArray⟩ (.slice An nn cn) (.slice Ak nk ck))) 33 (0, 0)) ∧ Rd w' (· < B) Ak 5 nk xk) (by kernel_rfl) ?_
          change wpAnyH _ _ _ _ _ _ _ _ (World.drew _)
          refine tkp 0 ⟨hFd.blk (i := 4) rfl, hrk.onG hFd hgl hB⟩ ?_
          (try simp only [Act.put, List.setIfInBounds_toArray, List.set_cons_zero, List.set_cons_succ])
          refine tkp 2 ⟨hFd.blk (i := 4) rfl, hrk.onG hFd hgl hB⟩ ?_
          (try simp only [Act.put, List.setIfInBounds_toArray, List.set_cons_zero, List.set_cons_succ])
          refine tky 3 (y := yi_fld (by with_unfolding_all rfl) (fun _ h => h.1) Tryd.underlying31 rfl (by with_unfolding_all exact ⟨_, rfl, rfl⟩) rfl) (s := ⟨hFd.blk (i := 4) rfl, hrk.onG hFd hgl hB⟩) (h := ?_)
          (try simp only [Act.put, List.setIfInBounds_toArray, List.set_cons_zero, List.set_cons_succ])
          refine tkp 4 ⟨hFd.blk (i := 4) rfl, hrk.onG hFd hgl hB⟩ ?_
          (try simp only [Act.put, List.setIfInBounds_toArray, List.set_cons_zero, List.set_cons_succ])
          refine tky 5 (y := yi_ix (by with_unfolding_all rfl) T_rvals (fun h => hrk.some_ h) (k := i) (by with_unfolding_all exact ⟨_, _, _, _, rfl, rfl, rfl⟩) rfl (by omega)) (s := ⟨hFd.blk (i := 4) rfl, hrk.onG hFd hgl hB⟩) (h := ?_)
          (try simp only [Act.put, List.setIfInBounds_toArray, List.set_cons_zero, List.set_cons_succ])
          refine tky 6 (y := yi_ldA (by with_unfolding_all rfl) (fun _ h => h.2) Tryd.underlying33 rfl (by with_unfolding_all exact ⟨_, rfl, rfl⟩) (ds := ci) (by rw [hcil.out]; kernel_rfl) (by rw [hcil.out]; exact hci.out)) (s := ⟨hFd.blk (i := 4) rfl, hrk.onG hFd hgl hB⟩) (h := ?_)
          (try simp only [Act.put, List.setIfInBounds_toArray, List.set_cons_zero, List.set_cons_succ])
          refine tkp 7 ⟨hFd.blk (i := 4) rfl, hrk.onG hFd hgl hB⟩ ?_
          (try simp only [Act.put, List.setIfInBounds_toArray, List.set_cons_zero, List.set_cons_succ])
          refine tkp 8 ⟨hFd.blk (i := 4) rfl, hrk.onG hFd hgl hB⟩ ?_
          (try simp only [Act.put, List.setIfInBounds_toArray, List.set_cons_zero, List.set_cons_succ])
          refine tkp 9 ⟨hFd.blk (i := 4) rfl, hrk.onG hFd hgl hB⟩ ?_
          (try simp only [Act.put, List.setIfInBounds_toArray, List.set_cons_zero, List.set_cons_succ])
          refine wpAnyH_ready (rs := [1, 10]) (by kernel_rfl) (by simp) ?_
          refine AllReadyH.cons (by simp only [List.getElem?_toArray, List.getElem?_cons_zero, List.getElem?_cons_succ]; rfl) (fun K hK => ?_) ?_
          · refine stp (by with_unfolding_all rfl) (wp_fld hFd (i := 0) rfl Tryd.underlying31 rfl (by with_unfolding_all exact ⟨_, rfl, rfl⟩) rfl ?_)
            refine hK.out _ _ (⟨hFd.blk (i := 4) rfl, hrk.onG hFd hgl hB⟩) (fun _ => ?_)
            clear hK K
            (try simp only [Act.put, List.setIfInBounds_toArray, List.set_cons_zero, List.set_cons_succ])
            refine rdy1 10 (fun K hK => ?_)
            refine stp (by with_unfolding_all rfl) (wp_call Tryd.func17 rfl (by with_unfolding_all rfl) (by with_unfolding_all rfl) (by with_unfolding_all rfl) (ihc.out _ _ hFd (hFd.blk (i := 2) rfl)) ?_)
            rintro e w31 ⟨cs31, es31, rfl, hvt31, hv31⟩
            refine ⟨_, rfl, ?_⟩
            have hF31 := hFd.putG (i := 2) rfl hv31
            simp only [List.set_cons_zero, List.set_cons_succ, List.cons_append] at hF31
            rw [← hm2.out] at hF31
            have hTn31 := box (hT2.out _ _ hFd _ _ hvt31)
            refine hK.out _ _ (⟨hF31.blk (i := 4) rfl, hrk.onG hF31 hgl hB⟩) (fun _ => ?_)
            clear hK K
            (try simp only [Act.put, List.setIfInBounds_toArray, List.set_cons_zero, List.set_cons_succ])
            refine rdy1 11 (fun K hK => ?_)
            refine stp (by with_unfolding_all rfl) (wp_fbs1 T_rvals hF31 (by with_unfolding_all rfl) (ds := cs31) (by with_unfolding_all rfl) hvt31.len (by decide) ?_)
            intro w32 g32 hF32 hz32
            refine hK.out _ _ (⟨hF32.blk (i := 5) rfl, hrk.onG hF32 hgl hB⟩) (fun _ => ?_)
            clear hK K
            (try simp only [Act.put, List.setIfInBounds_toArray, List.set_cons_zero, List.set_cons_succ])
            refine rdy1 12 (fun K hK => ?_)
            refine stp (by with_unfolding_all rfl) (wp_fappG T_rvals hF32 (i := 2) rfl (Nat.le_refl _) (hF32.rdOwn (i := 0) rfl) hvt31.one (by with_unfolding_all exact ⟨_, _, rfl, rfl, rfl⟩) (by unfold maxLen; omega) (by omega) ?_)
            intro v33 w33 hF33 hz33
            (try simp only [List.set_cons_zero, List.set_cons_succ] at hF33)
            obtain ⟨A33, c33, rfl, hc33⟩ := hF33.ownParts (i := 2) rfl
            refine hK.out _ _ (⟨hF33.blk (i := 5) rfl, hrk.onG hF33 hgl hB⟩) (fun _ => ?_)
            clear hK K
            (try simp only [Act.put, List.setIfInBounds_toArray, List.set_cons_zero, List.set_cons_succ])
            refine tkp 13 ⟨hF33.blk (i := 5) rfl, hrk.onG hF33 hgl hB⟩ ?_
            (try simp only [Act.put, List.setIfInBounds_toArray, List.set_cons_zero, List.set_cons_succ])
            refine rdy1 14 (fun K hK => ?_)
            refine stp (by with_unfolding_all rfl) (wp_fst hF33 (i := 1) rfl (v := .slice A33 (i + 1) c33) (by with_unfolding_all exact ⟨_, _, rfl, rfl, rfl⟩) (by kernel_rfl) rfl rfl (by rw [vlL_len]; decide) ?_)
            intro w34 hF34 hz34
            (try simp only [List.set_cons_zero, List.set_cons_succ] at hF34)
            rw [(vlL_4 (k := k) (n := n) (t := ⟨t.toArray⟩) (a := .slice An nn cn) (b := .slice Ai i ci'))] at hF34
            refine hK.out _ _ (⟨hF34.blk (i := 5) rfl, hrk.onG hF34 hgl hB⟩) (fun _ => ?_)
            clear hK K
            (try simp only [Act.put, List.setIfInBounds_toArray, List.set_cons_zero, List.set_cons_succ])
            refine wpAnyH_done (by kernel_rfl) ?_ _
            go_wp2_with fail
            go_roundg (nk - (i + 1))
            case rel => exact ⟨i + 1, A33, c33, _, _, _, m2, by omega, box rfl, by go_num, hc33, trivial, by omega, hTn31, box (by rw [hm2.out]; exact hJ2.out), hF34.tail⟩
            case measure => have := hkf.out; omega
          refine AllReadyH.cons (by simp only [List.getElem?_toArray, List.getElem?_cons_zero, List.getElem?_cons_succ]; rfl) (fun K hK => ?_) ?_
          · refine stp (by with_unfolding_all rfl) (wp_call Tryd.func17 rfl (by with_unfolding_all rfl) (by with_unfolding_all rfl) (by with_unfolding_all rfl) (ihc.out _ _ hFd (hFd.blk (i := 2) rfl)) ?_)
            rintro e w31 ⟨cs31, es31, rfl, hvt31, hv31⟩
            refine ⟨_, rfl, ?_⟩
            have hF31 := hFd.putG (i := 2) rfl hv31
            simp only [List.set_cons_zero, List.set_cons_succ, List.cons_append] at hF31
            rw [← hm2.out] at hF31
            have hTn31 := box (hT2.out _ _ hFd _ _ hvt31)
            refine hK.out _ _ (⟨hF31.blk (i := 4) rfl, hrk.onG hF31 hgl hB⟩) (fun _ => ?_)
            clear hK K
            (try simp only [Act.put, List.setIfInBounds_toArray, List.set_cons_zero, List.set_cons_succ])
            refine wpAnyH_ready (rs := [1, 11]) (by kernel_rfl) (by simp) ?_
            refine AllReadyH.cons (by simp only [List.getElem?_toArray, List.getElem?_cons_zero, List.getElem?_cons_succ]; rfl) (fun K hK => ?_) ?_
            · refine stp (by with_unfolding_all rfl) (wp_fld hF31 (i := 0) rfl Tryd.underlying31 rfl (by with_unfolding_all exact ⟨_, rfl, rfl⟩) rfl ?_)
              refine hK.out _ _ (⟨hF31.blk (i := 4) rfl, hrk.onG hF31 hgl hB⟩) (fun _ => ?_)
              clear hK K
              (try simp only [Act.put, List.setIfInBounds_toArray, List.set_cons_zero, List.set_cons_succ])
              refine rdy1 11 (fun K hK => ?_)
              refine stp (by with_unfolding_all rfl) (wp_fbs1 T_rvals hF31 (by with_unfolding_all rfl) (ds := cs31) (by with_unfolding_all rfl) hvt31.len (by decide) ?_)
              intro w32 g32 hF32 hz32
              refine hK.out _ _ (⟨hF32.blk (i := 5) rfl, hrk.onG hF32 hgl hB⟩) (fun _ => ?_)
              clear hK K
              (try simp only [Act.put, List.setIfInBounds_toArray, List.set_cons_zero, List.set_cons_succ])
              refine rdy1 12 (fun K hK => ?_)
              refine stp (by with_unfolding_all rfl) (wp_fappG T_rvals hF32 (i := 2) rfl (Nat.le_refl _) (hF32.rdOwn (i := 0) rfl) hvt31.one (by with_unfolding_all exact ⟨_, _, rfl, rfl, rfl⟩) (by unfold maxLen; omega) (by omega) ?_)
              intro v33 w33 hF33 hz33
              (try simp only [List.set_cons_zero, List.set_cons_succ] at hF33)
              obtain ⟨A33, c33, rfl, hc33⟩ := hF33.ownParts (i := 2) rfl
              refine hK.out _ _ (⟨hF33.blk (i := 5) rfl, hrk.onG hF33 hgl hB⟩) (fun _ => ?_)
              clear hK K
              (try simp only [Act.put, List.setIfInBounds_toArray, List.set_cons_zero, List.set_cons_succ])
              refine tkp 13 ⟨hF33.blk (i := 5) rfl, hrk.onG hF33 hgl hB⟩ ?_
              (try simp only [Act.put, List.setIfInBounds_toArray, List.set_cons_zero, List.set_cons_succ])
              refine rdy1 14 (fun K hK => ?_)
              refine stp (by with_unfolding_all rfl) (wp_fst hF33 (i := 1) rfl (v := .slice A33 (i + 1) c33) (by with_unfolding_all exact ⟨_, _, rfl, rfl, rfl⟩) (by kernel_rfl) rfl rfl (by rw [vlL_len]; decide) ?_)
              intro w34 hF34 hz34
              (try simp only [List.set_cons_zero, List.set_cons_succ] at hF34)
              rw [(vlL_4 (k := k) (n := n) (t := ⟨t.toArray⟩) (a := .slice An nn cn) (b := .slice Ai i ci'))] at hF34
              refine hK.out _ _ (⟨hF34.blk (i := 5) rfl, hrk.onG hF34 hgl hB⟩) (fun _ => ?_)
              clear hK K
              (try simp only [Act.put, List.setIfInBounds_toArray, List.set_cons_zero, List.set_cons_succ])
              refine wpAnyH_done (by kernel_rfl) ?_ _
              go_wp2_with fail
              go_roundg (nk - (i + 1))
              case rel => exact ⟨i + 1, A33, c33, _, _, _, m2, by omega, box rfl, by go_num, hc33, trivial, by omega, hTn31, box (by rw [hm2.out]; exact hJ2.out), hF34.tail⟩
              case measure => have := hkf.out; omega
            refine AllReadyH.cons (by simp only [List.getElem?_toArray, List.getElem?_cons_zero, List.getElem?_cons_succ]; rfl) (fun K hK => ?_) ?_
            · refine stp (by with_unfolding_all rfl) (wp_fbs1 T_rvals hF31 (by with_unfolding_all rfl) (ds := cs31) (by with_unfolding_all rfl) hvt31.len (by decide) ?_)
              intro w32 g32 hF32 hz32
              refine hK.out _ _ (⟨hF32.blk (i := 5) rfl, hrk.onG hF32 hgl hB⟩) (fun _ => ?_)
              clear hK K
              (try simp only [Act.put, List.setIfInBounds_toArray, List.set_cons_zero, List.set_cons_succ])
              refine rdy1 1 (fun K hK => ?_)
              refine stp (by with_unfolding_all rfl) (wp_fld hF32 (i := 1) rfl Tryd.underlying31 rfl (by with_unfolding_all exact ⟨_, rfl, rfl⟩) rfl ?_)
              refine hK.out _ _ (⟨hF32.blk (i := 5) rfl, hrk.onG hF32 hgl hB⟩) (fun _ => ?_)
              clear hK K
              (try simp only [Act.put, List.setIfInBounds_toArray, List.set_cons_zero, List.set_cons_succ])
              refine rdy1 12 (fun K hK => ?_)
              refine stp (by with_unfolding_all rfl) (wp_fappG T_rvals hF32 (i := 2) rfl (Nat.le_refl _) (hF32.rdOwn (i := 0) rfl) hvt31.one (by with_unfolding_all exact ⟨_, _, rfl, rfl, rfl⟩) (by unfold maxLen; omega) (by omega) ?_)
              intro v33 w33 hF33 hz33
              (try simp only [List.set_cons_zero, List.set_cons_succ] at hF33)
              obtain ⟨A33, c33, rfl, hc33⟩ := hF33.ownParts (i := 2) rfl
              refine hK.out _ _ (⟨hF33.blk (i := 5) rfl, hrk.onG hF33 hgl hB⟩) (fun _ => ?_)
              clear hK K
              (try simp only [Act.put, List.setIfInBounds_toArray, List.set_cons_zero, List.set_cons_succ])
              refine tkp 13 ⟨hF33.blk (i := 5) rfl, hrk.onG hF33 hgl hB⟩ ?_
              (try simp only [Act.put, List.setIfInBounds_toArray, List.set_cons_zero, List.set_cons_succ])
              refine rdy1 14 (fun K hK => ?_)
              refine stp (by with_unfolding_all rfl) (wp_fst hF33 (i := 1) rfl (v := .slice A33 (i + 1) c33) (by with_unfolding_all exact ⟨_, _, rfl, rfl, rfl⟩) (by kernel_rfl) rfl rfl (by rw [vlL_len]; decide) ?_)
              intro w34 hF34 hz34
              (try simp only [List.set_cons_zero, List.set_cons_succ] at hF34)
              rw [(vlL_4 (k := k) (n := n) (t := ⟨t.toArray⟩) (a := .slice An nn cn) (b := .slice Ai i ci'))] at hF34
              refine hK.out _ _ (⟨hF34.blk (i := 5) rfl, hrk.onG hF34 hgl hB⟩) (fun _ => ?_)
              clear hK K
              (try simp only [Act.put, List.setIfInBounds_toArray, List.set_cons_zero, List.set_cons_succ])
              refine wpAnyH_done (by kernel_rfl) ?_ _
              go_wp2_with fail
              go_roundg (nk - (i + 1))
              case rel => exact ⟨i + 1, A33, c33, _, _, _, m2, by omega, box rfl, by go_num, hc33, trivial, by omega, hTn31, box (by rw [hm2.out]; exact hJ2.out), hF34.tail⟩
              case measure => have := hkf.out; omega
            exact AllReadyH.nil
          exact AllReadyH.nil
        · have hjc0 : Box (jCutN (d + 1) (.mk k n t ns ks) m = (.mk k n t ns ys, m')) := box (by
            obtain rfl : m' = 0 := by omega
            have h := hJ.out
            rw [jCutL_zero] at h
            rw [jCutN, h, List.append_nil])
          clear hJ
          go_wp2_with (first | (with_reducible refine lst (by with_unfolding_all rfl) (wp_fld4 hF Tryd.underlying31 rfl (by with_unfolding_all exact ⟨_, rfl, rfl⟩) rfl ?_)) | (with_reducible refine lst (by with_unfolding_all rfl) (wp_fld2 hF Tryd.underlying3 rfl (by with_unfolding_all exact ⟨_, rfl, rfl⟩) rfl ?_)) | (with_reducible refine lst (by with_unfolding_all rfl) (wp_fldA0 hF Tryd.underlying33 rfl (by with_unfolding_all exact ⟨_, rfl, rfl⟩) (ds := (vlL k n ⟨t.toArray⟩ (.slice An nn cn) (.slice Ai i ci'))) (by rw [vlL_len]; kernel_rfl) (take_all _) ?_)) | ((with_reducible refine lst (by with_unfolding_all rfl) (wp_fstA3 hF (by with_unfolding_all exact ⟨_, _, rfl, rfl, rfl⟩) (by rw [vlL_len]; kernel_rfl) vlL_one vlL_fit vlL_spl ?_)); intro w9 hF9 hz9))
          exact bodyPost_ret (results_cellF rfl _ hF9 (i := 3) rfl rfl Tryd.underlying33 rfl (by rw [vlL_len]; kernel_rfl)) rfl (by
            have hjc : jCutN (d + 1) (.mk k n t ns ks) m = (.mk k n t ns ys, m') := by exact hjc0.out
            rw [hjc]
            refine ⟨_, _, rfl, VC.mk_ hcn hci' hrn hT.out, ?_⟩
            have h1 := hF9.toRd (i := 1) rfl
            simp only [List.set_cons_succ, List.set_cons_zero] at h1
            refine (h1.sub (es' := .rd Ai 5 i xs :: .blk gl 3 [.int .i64 (m' : Int)] :: TE) ?_).perm (List.Perm.swap _ _ _)
            exact (((List.Sublist.refl _).cons _).cons _).cons_cons _ |>.cons_cons _ |>.cons _)
      · have hjc0 : Box (jCutN (d + 1) (.mk k n t ns ks) m = (.mk k n t ns ys, m')) := box (by
          have h := hJ.out
          rw [List.drop_of_length_le (by rw [hnk.out]; omega), jCutL] at h
          rw [jCutN, h, List.append_nil])
        clear hJ
        go_wp2_with (first | (with_reducible refine lst (by with_unfolding_all rfl) (wp_fld4 hF Tryd.underlying31 rfl (by with_unfolding_all exact ⟨_, rfl, rfl⟩) rfl ?_)) | (with_reducible refine lst (by with_unfolding_all rfl) (wp_fld2 hF Tryd.underlying3 rfl (by with_unfolding_all exact ⟨_, rfl, rfl⟩) rfl ?_)) | (with_reducible refine lst (by with_unfolding_all rfl) (wp_fldA0 hF Tryd.underlying33 rfl (by with_unfolding_all exact ⟨_, rfl, rfl⟩) (ds := (vlL k n ⟨t.toArray⟩ (.slice An nn cn) (.slice Ai i ci'))) (by rw [vlL_len]; kernel_rfl) (take_all _) ?_)) | ((with_reducible refine lst (by with_unfolding_all rfl) (wp_fstA3 hF (by with_unfolding_all exact ⟨_, _, rfl, rfl, rfl⟩) (by rw [vlL_len]; kernel_rfl) vlL_one vlL_fit vlL_spl ?_)); intro w9 hF9 hz9))
        exact bodyPost_ret (results_cellF rfl _ hF9 (i := 3) rfl rfl Tryd.underlying33 rfl (by rw [vlL_len]; kernel_rfl)) rfl (by
          have hjc : jCutN (d + 1) (.mk k n t ns ks) m = (.mk k n t ns ys, m') := by exact hjc0.out
          rw [hjc]
          refine ⟨_, _, rfl, VC.mk_ hcn hci' hrn hT.out, ?_⟩
          have h1 := hF9.toRd (i := 1) rfl
          simp only [List.set_cons_succ, List.set_cons_zero] at h1
          refine (h1.sub (es' := .rd Ai 5 i xs :: .blk gl 3 [.int .i64 (m' : Int)] :: TE) ?_).perm (List.Perm.swap _ _ _)
          exact (((List.Sublist.refl _).cons _).cons _).cons_cons _ |>.cons_cons _ |>.cons _)

end Go.Proofs.YtdekogmegdhjoaaDoor

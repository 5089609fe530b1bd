/-
  Layer 6: the laws' cut, walked.
  Layer 6: an object's members, in plain words. No program is named here.
  Layer 6, plain law: what is kept of a value that is cut. No program is named here.
  Layer 6: the program's Field and the document's, walked.
-/
import Derived.Test.YtdekogmegdhjoaaDoorM20
import Derived.Test.YtdekogmegdhjoaaDoorM03
import Derived.Test.YtdekogmegdhjoaaDoorM15
import Derived.Test.YtdekogmegdhjoaaDoorM18
namespace Go.Proofs.YtdekogmegdhjoaaDoor
open Go.RowKit
set_option linter.unusedSimpArgs false


set_option maxRecDepth 20000 in
set_option maxHeartbeats 12800000 in
theorem cut_any (d : Nat) : ∀ (v : JV) (cs : List Value) (w : World) (gl m B : Nat), d ≤ 1000 → m ≤ 100000 → VRd w (· < B) v cs → JSm v → B ≤ gl → B ≤ w.heap.size → w.heap[gl]? = some (.cells [Value.int .i64 (m : Int)].toArray 3 (0, 0)) →
    Calls Tryd.prog 17 #[.agg cs.toArray, .int .i64 (d : Int), .pointer (some ⟨gl, 0, none⟩)] w fun e w' => ∃ cs' es', e = .returned (.agg cs'.toArray) ∧ VC w B (jCutN d v m).1 cs' es' ∧ Fr [gl] w w' (.blk gl 3 [.int .i64 ((jCutN d v m).2 : Int)] :: es') := by
  induction d with
  | zero =>
    intro v cs w gl m B hd hm hv hsm hgl hB hh
    obtain ⟨k, n, t, ns, ks⟩ := v
    rw [VRd] at hv
    obtain ⟨An, nn, cn, Ak, nk, ck, xk, hcn, hck, rfl, hrn, hrk, hvk⟩ := hv
    rw [JSm] at hsm
    obtain ⟨hs1, hs2, hs3⟩ := hsm
    have hnk : ks.length = nk := by have := hrk.len; rw [hvk.len] at this; omega
    rw [hnk] at hs2
    replace hnk := box hnk
    replace hvk := box hvk
    replace hs1 := box hs1
    have hF0 := Fr.one hh
    clear hh
    go_enter Tryd.func17, Tryd.ntmps17
    go_upto_region 3 with (first | ((with_reducible refine lst (by with_unfolding_all rfl) (wp_fbox hF0 (cs := (vlL k n ⟨t.toArray⟩ (.slice An nn cn) (.slice Ak nk ck))) rfl (by with_unfolding_all rfl) (by with_unfolding_all rfl) ?_)); intro w1 g1 hF1 hz1) | ((with_reducible refine lst (by with_unfolding_all rfl) (wp_falloc hF1 (cs := vl0) (z := .agg (List.toArray (vl0))) rfl (by kernel_rfl) (by with_unfolding_all rfl) ?_)); intro w2 g2 hF2 hz2) | (with_reducible refine lst (by with_unfolding_all rfl) (wp_fldA1 hF2 Tryd.underlying33 rfl (by with_unfolding_all exact ⟨_, rfl, rfl⟩) (ds := (vlL k n ⟨t.toArray⟩ (.slice An nn cn) (.slice Ak nk ck))) (by rw [vlL_len]; kernel_rfl) (take_all _) ?_)) | ((with_reducible refine lst (by with_unfolding_all rfl) (wp_falloc hF2 (cs := vl0) (z := .agg (List.toArray (vl0))) rfl (by kernel_rfl) (by with_unfolding_all rfl) ?_)); intro w3 g3 hF3 hz3) | ((with_reducible refine lst (by with_unfolding_all rfl) (wp_fstA0 hF3 (by with_unfolding_all exact ⟨_, _, rfl, rfl, rfl⟩) (by rw [vlL_len]; kernel_rfl) vlL_one vlL_fit vlL_spl ?_)); intro w4 hF4 hz4) | ((with_reducible refine lst (by with_unfolding_all rfl) (wp_fst0 hF4 (by with_unfolding_all exact ⟨_, _, rfl, rfl, rfl⟩) (by kernel_rfl) rfl rfl (by rw [vlL_len]; decide) vlL_4 ?_)); intro w5 hF5 hz5))
    have hF6 := (hF5.none_ w.heap.size 33 5).picks [1, 0, 4, 2, 3] (fs := (.blk g3 33 (vlL k n ⟨t.toArray⟩ (.slice An nn cn) (.slice none 0 0)) :: .own w.heap.size 33 5 (.slice none 0 0) 0 [] :: .blk gl 3 [.int .i64 (m : Int)] :: .blk g2 33 vl0 :: .blk g1 33 (vlL k n ⟨t.toArray⟩ (.slice An nn cn) (.slice Ak nk ck)) :: [])) rfl (by decide)
    clear hF0 hF1 hF2 hF3 hF4 hF5
    go_wp2_with fail
    go_loopg [8] nk (fun gk s wr => ∃ (i : Nat) (Ai : Option Addr) (ci' : Nat) (xs : List Value) (ys : List JV) (TE : List Ent) (m' : Nat), i ≤ nk ∧ Box (gk = nk - i) ∧ s = .int .i64 (i : Int) ∧ i ≤ ci' ∧ i = 0 ∧ m' ≤ m ∧ Box (VCL w B ys xs TE) ∧ Box ((([] : List JV), m) = (ys ++ [], m')) ∧ Fr [gl] w wr (.blk g3 33 (vlL k n ⟨t.toArray⟩ (.slice An nn cn) (.slice Ai i ci')) :: .own w.heap.size 33 5 (.slice Ai i ci') i xs :: .blk gl 3 [.int .i64 (m' : Int)] :: .blk g2 33 vl0 :: .blk g1 33 (vlL k n ⟨t.toArray⟩ (.slice An nn cn) (.slice Ak nk ck)) :: TE))
    case atStart => exact ⟨0, none, 0, [], [], [], m, by omega, box rfl, rfl, by omega, rfl, Nat.le_refl _, box VCL.nil, box (by simp), hF6⟩
    case round =>
      clear hF6
      obtain ⟨i, Ai, ci', xs, ys, TE, m', hi, hk, rfl, hci', h0, hm', hT, hJ, hF⟩ := hrel
      have hkf : Box (gk = nk - i) := hk
      clear hk
      subst h0
      by_cases hz0 : 0 < nk
      · go_wp2_with (first | (with_reducible refine lst (by with_unfolding_all rfl) (wp_fld4 hF Tryd.underlying31 rfl (by with_unfolding_all exact ⟨_, rfl, rfl⟩) rfl ?_)) | (with_reducible refine lst (by with_unfolding_all rfl) (wp_fld2 hF Tryd.underlying3 rfl (by with_unfolding_all exact ⟨_, rfl, rfl⟩) rfl ?_)) | (with_reducible refine lst (by with_unfolding_all rfl) (wp_fldA0 hF Tryd.underlying33 rfl (by with_unfolding_all exact ⟨_, rfl, rfl⟩) (ds := (vlL k n ⟨t.toArray⟩ (.slice An nn cn) (.slice Ai 0 ci'))) (by rw [vlL_len]; kernel_rfl) (take_all _) ?_)) | ((with_reducible refine lst (by with_unfolding_all rfl) (wp_fstA3 hF (by with_unfolding_all exact ⟨_, _, rfl, rfl, rfl⟩) (by rw [vlL_len]; kernel_rfl) vlL_one vlL_fit vlL_spl ?_)); intro w9 hF9 hz9))
        exact bodyPost_ret (results_cellF rfl _ hF9 (i := 3) rfl rfl Tryd.underlying33 rfl (by rw [vlL_len]; kernel_rfl)) rfl (by
          have hjc : jCutN (0) (.mk k n t ns ks) m = (.mk k n t ns ys, m') := by have h := hJ.out; simp only [List.append_nil, Prod.mk.injEq] at h; rw [jCutN, ← h.1, ← h.2]
          rw [hjc]
          refine ⟨_, _, rfl, VC.mk_ hcn hci' hrn hT.out, ?_⟩
          have h1 := hF9.toRd (i := 1) rfl
          simp only [List.set_cons_succ, List.set_cons_zero] at h1
          refine (h1.sub (es' := .rd Ai 5 0 xs :: .blk gl 3 [.int .i64 (m' : Int)] :: TE) ?_).perm (List.Perm.swap _ _ _)
          exact (((List.Sublist.refl _).cons _).cons _).cons_cons _ |>.cons_cons _ |>.cons _)
      · go_wp2_with (first | (with_reducible refine lst (by with_unfolding_all rfl) (wp_fld4 hF Tryd.underlying31 rfl (by with_unfolding_all exact ⟨_, rfl, rfl⟩) rfl ?_)) | (with_reducible refine lst (by with_unfolding_all rfl) (wp_fld2 hF Tryd.underlying3 rfl (by with_unfolding_all exact ⟨_, rfl, rfl⟩) rfl ?_)) | (with_reducible refine lst (by with_unfolding_all rfl) (wp_fldA0 hF Tryd.underlying33 rfl (by with_unfolding_all exact ⟨_, rfl, rfl⟩) (ds := (vlL k n ⟨t.toArray⟩ (.slice An nn cn) (.slice Ai 0 ci'))) (by rw [vlL_len]; kernel_rfl) (take_all _) ?_)) | ((with_reducible refine lst (by with_unfolding_all rfl) (wp_fstA3 hF (by with_unfolding_all exact ⟨_, _, rfl, rfl, rfl⟩) (by rw [vlL_len]; kernel_rfl) vlL_one vlL_fit vlL_spl ?_)); intro w9 hF9 hz9))
        exact bodyPost_ret (results_cellF rfl _ hF9 (i := 3) rfl rfl Tryd.underlying33 rfl (by rw [vlL_len]; kernel_rfl)) rfl (by
          have hjc : jCutN (0) (.mk k n t ns ks) m = (.mk k n t ns ys, m') := by have h := hJ.out; simp only [List.append_nil, Prod.mk.injEq] at h; rw [jCutN, ← h.1, ← h.2]
          rw [hjc]
          refine ⟨_, _, rfl, VC.mk_ hcn hci' hrn hT.out, ?_⟩
          have h1 := hF9.toRd (i := 1) rfl
          simp only [List.set_cons_succ, List.set_cons_zero] at h1
          refine (h1.sub (es' := .rd Ai 5 0 xs :: .blk gl 3 [.int .i64 (m' : Int)] :: TE) ?_).perm (List.Perm.swap _ _ _)
          exact (((List.Sublist.refl _).cons _).cons _).cons_cons _ |>.cons_cons _ |>.cons _)
  | succ d ih =>
    intro v cs w gl m B hd hm hv hsm hgl hB hh
    obtain ⟨k, n, t, ns, ks⟩ := v
    rw [VRd] at hv
    obtain ⟨An, nn, cn, Ak, nk, ck, xk, hcn, hck, rfl, hrn, hrk, hvk⟩ := hv
    rw [JSm] at hsm
    obtain ⟨hs1, hs2, hs3⟩ := hsm
    have hnk : ks.length = nk := by have := hrk.len; rw [hvk.len] at this; omega
    rw [hnk] at hs2
    replace hnk := box hnk
    replace hvk := box hvk
    replace hs1 := box hs1
    have hF0 := Fr.one hh
    clear hh
    go_enter Tryd.func17, Tryd.ntmps17
    go_upto_region 3 with (first | ((with_reducible refine lst (by with_unfolding_all rfl) (wp_fbox hF0 (cs := (vlL k n ⟨t.toArray⟩ (.slice An nn cn) (.slice Ak nk ck))) rfl (by with_unfolding_all rfl) (by with_unfolding_all rfl) ?_)); intro w1 g1 hF1 hz1) | ((with_reducible refine lst (by with_unfolding_all rfl) (wp_falloc hF1 (cs := vl0) (z := .agg (List.toArray (vl0))) rfl (by kernel_rfl) (by with_unfolding_all rfl) ?_)); intro w2 g2 hF2 hz2) | (with_reducible refine lst (by with_unfolding_all rfl) (wp_fldA1 hF2 Tryd.underlying33 rfl (by with_unfolding_all exact ⟨_, rfl, rfl⟩) (ds := (vlL k n ⟨t.toArray⟩ (.slice An nn cn) (.slice Ak nk ck))) (by rw [vlL_len]; kernel_rfl) (take_all _) ?_)) | ((with_reducible refine lst (by with_unfolding_all rfl) (wp_falloc hF2 (cs := vl0) (z := .agg (List.toArray (vl0))) rfl (by kernel_rfl) (by with_unfolding_all rfl) ?_)); intro w3 g3 hF3 hz3) | ((with_reducible refine lst (by with_unfolding_all rfl) (wp_fstA0 hF3 (by with_unfolding_all exact ⟨_, _, rfl, rfl, rfl⟩) (by rw [vlL_len]; kernel_rfl) vlL_one vlL_fit vlL_spl ?_)); intro w4 hF4 hz4) | ((with_reducible refine lst (by with_unfolding_all rfl) (wp_fst0 hF4 (by with_unfolding_all exact ⟨_, _, rfl, rfl, rfl⟩) (by kernel_rfl) rfl rfl (by rw [vlL_len]; decide) vlL_4 ?_)); intro w5 hF5 hz5))
    have hF6 := (hF5.none_ w.heap.size 33 5).picks [1, 0, 4, 2, 3] (fs := (.blk g3 33 (vlL k n ⟨t.toArray⟩ (.slice An nn cn) (.slice none 0 0)) :: .own w.heap.size 33 5 (.slice none 0 0) 0 [] :: .blk gl 3 [.int .i64 (m : Int)] :: .blk g2 33 vl0 :: .blk g1 33 (vlL k n ⟨t.toArray⟩ (.slice An nn cn) (.slice Ak nk ck)) :: [])) rfl (by decide)
    clear hF0 hF1 hF2 hF3 hF4 hF5
    go_wp2_with fail
    go_loopg [8] nk (fun gk s wr => ∃ (i : Nat) (Ai : Option Addr) (ci' : Nat) (xs : List Value) (ys : List JV) (TE : List Ent) (m' : Nat), i ≤ nk ∧ Box (gk = nk - i) ∧ s = .int .i64 (i : Int) ∧ i ≤ ci' ∧ True ∧ m' ≤ m ∧ Box (VCL w B ys xs TE) ∧ Box (jCutL (jCutN d) ks m = (ys ++ (jCutL (jCutN d) (ks.drop i) m').1, (jCutL (jCutN d) (ks.drop i) m').2)) ∧ Fr [gl] w wr (.blk g3 33 (vlL k n ⟨t.toArray⟩ (.slice An nn cn) (.slice Ai i ci')) :: .own w.heap.size 33 5 (.slice Ai i ci') i xs :: .blk gl 3 [.int .i64 (m' : Int)] :: .blk g2 33 vl0 :: .blk g1 33 (vlL k n ⟨t.toArray⟩ (.slice An nn cn) (.slice Ak nk ck)) :: TE))
    case atStart => exact ⟨0, none, 0, [], [], [], m, by omega, box rfl, rfl, by omega, trivial, Nat.le_refl _, box VCL.nil, box (by simp), hF6⟩
    case round =>
      clear hF6
      obtain ⟨i, Ai, ci', xs, ys, TE, m', hi, hk, rfl, hci', h0, hm', hT, hJ, hF⟩ := hrel
      have hkf : Box (gk = nk - i) := hk
      clear hk
      by_cases hlt : i < nk
      · by_cases hm0 : 0 < m'
        · obtain ⟨vi, hvi⟩ : ∃ vi, ks[i]? = some vi := ⟨ks[i]'(by rw [hnk.out]; exact hlt), by simp⟩
          obtain ⟨ci, hci, hvri⟩ := hvk.out.at hvi
          have hcil := box hvri.len
          replace hci := box hci
          have hsi := hs3.at hvi
          obtain ⟨m1, rfl⟩ : ∃ m1, m' = m1 + 1 := ⟨m' - 1, by omega⟩
          have ihc := box (fun (w' : World) (es : List Ent) (hF' : Fr [gl] w w' es) (hh : w'.heap[gl]? = some (.cells [Value.int .i64 (m1 : Int)].toArray 3 (0, 0))) => ih vi ci w' gl m1 B (by omega) (by omega) (hvri.onG (hF'.belowG hgl hB)) hsi hgl (Nat.le_trans hB hF'.size) hh)
          have hT2 : Box (∀ (w' : World) (es : List Ent), Fr [gl] w w' es → ∀ c e, VC w' B (jCutN d vi m1).1 c e → VCL w B (ys ++ [(jCutN d vi m1).1]) (xs ++ c) (TE ++ e)) := box (fun w' es hF' c e h => hT.out.snoc (h.keep fun k hk => ((hF'.belowG hgl hB).block k hk).symm))
          have hJ2 := box (jCutL_step hvi hJ.out)
          have hle := jCutN_le d vi m1
          obtain ⟨m2, hm2⟩ : ∃ m2, m2 = (jCutN d vi m1).2 := ⟨_, rfl⟩
          rw [← hm2] at hle
          replace hm2 := box hm2
          have hwp := wrap64_pred (d := d) (by omega)
          replace hvi := box hvi
          replace hvri := box hvri
          replace hsi := box hsi
          replace hs3 := box hs3
          go_upto_region 7 with (first | (with_reducible refine lst (by with_unfolding_all rfl) (wp_fld4 hF Tryd.underlying31 rfl (by with_unfolding_all exact ⟨_, rfl, rfl⟩) rfl ?_)) | (with_reducible refine lst (by with_unfolding_all rfl) (wp_fld2 hF Tryd.underlying3 rfl (by with_unfolding_all exact ⟨_, rfl, rfl⟩) rfl ?_)) | ((with_reducible refine lst (by with_unfolding_all rfl) (wp_fst2 hF (by with_unfolding_all exact ⟨_, _, rfl, rfl, rfl⟩) (by kernel_rfl) rfl rfl (by first | decide | (simp; done) | (simp; omega)) (spl1' _ (.int .i64 ((m1 : Nat) : Int))) ?_)); intro w7 hF7 hz7))
          have hFd := hF7.drew
          refine wp_region_held (S := fun w' => w'.heap[g1]? = some (.cells (List.toArray (vlL k n ⟨t.toArray⟩ (.slice An nn cn) (.slice Ak nk ck))) 33 (0, 0)) ∧ Rd w' (· < B) Ak 5 nk xk) (by kernel_rfl) ?_
          change wpAnyH _ _ _ _ _ _ _ _ (World.drew _)
          refine tkp 0 ⟨hFd.blk (i := 4) rfl, hrk.onG hFd hgl hB⟩ ?_
          (try simp only [Act.put, List.setIfInBounds_toArray, List.set_cons_zero, List.set_cons_succ])
          refine tkp 2 ⟨hFd.blk (i := 4) rfl, hrk.onG hFd hgl hB⟩ ?_
          (try simp only [Act.put, List.setIfInBounds_toArray, List.set_cons_zero, List.set_cons_succ])
          refine tky 3 (y := yi_fld (by with_unfolding_all rfl) (fun _ h => h.1) Tryd.underlying31 rfl (by with_unfolding_all exact ⟨_, rfl, rfl⟩) rfl) (s := ⟨hFd.blk (i := 4) rfl, hrk.onG hFd hgl hB⟩) (h := ?_)
          (try simp only [Act.put, List.setIfInBounds_toArray, List.set_cons_zero, List.set_cons_succ])
          refine tkp 4 ⟨hFd.blk (i := 4) rfl, hrk.onG hFd hgl hB⟩ ?_
          (try simp only [Act.put, List.setIfInBounds_toArray, List.set_cons_zero, List.set_cons_succ])
          refine tky 5 (y := yi_ix (by with_unfolding_all rfl) T_rvals (fun h => hrk.some_ h) (k := i) (by with_unfolding_all exact ⟨_, _, _, _, rfl, rfl, rfl⟩) rfl (by omega)) (s := ⟨hFd.blk (i := 4) rfl, hrk.onG hFd hgl hB⟩) (h := ?_)
          (try simp only [Act.put, List.setIfInBounds_toArray, List.set_cons_zero, List.set_cons_succ])
          refine tky 6 (y := yi_ldA (by with_unfolding_all rfl) (fun _ h => h.2) Tryd.underlying33 rfl (by with_unfolding_all exact ⟨_, rfl, rfl⟩) (ds := ci) (by rw [hcil.out]; kernel_rfl) (by rw [hcil.out]; exact hci.out)) (s := ⟨hFd.blk (i := 4) rfl, hrk.onG hFd hgl hB⟩) (h := ?_)
          (try simp only [Act.put, List.setIfInBounds_toArray, List.set_cons_zero, List.set_cons_succ])
          refine tkp 7 ⟨hFd.blk (i := 4) rfl, hrk.onG hFd hgl hB⟩ ?_
          (try simp only [Act.put, List.setIfInBounds_toArray, List.set_cons_zero, List.set_cons_succ])
          refine tkp 8 ⟨hFd.blk (i := 4) rfl, hrk.onG hFd hgl hB⟩ ?_
          (try simp only [Act.put, List.setIfInBounds_toArray, List.set_cons_zero, List.set_cons_succ])
          refine tkp 9 ⟨hFd.blk (i := 4) rfl, hrk.onG hFd hgl hB⟩ ?_
          (try simp only [Act.put, List.setIfInBounds_toArray, List.set_cons_zero, List.set_cons_succ])
          refine wpAnyH_ready (rs := [1, 10]) (by kernel_rfl) (by simp) ?_
          refine AllReadyH.cons (by simp only [List.getElem?_toArray, List.getElem?_cons_zero, List.getElem?_cons_succ]; rfl) (fun K hK => ?_) ?_
          · refine stp (by with_unfolding_all rfl) (wp_fld hFd (i := 0) rfl Tryd.underlying31 rfl (by with_unfolding_all exact ⟨_, rfl, rfl⟩) rfl ?_)
            refine hK.out _ _ (⟨hFd.blk (i := 4) rfl, hrk.onG hFd hgl hB⟩) (fun _ => ?_)
            clear hK K
            (try simp only [Act.put, List.setIfInBounds_toArray, List.set_cons_zero, List.set_cons_succ])
            refine rdy1 10 (fun K hK => ?_)
            refine stp (by with_unfolding_all rfl) (wp_call Tryd.func17 rfl (by with_unfolding_all rfl) (by with_unfolding_all rfl) (by with_unfolding_all rfl) (ihc.out _ _ hFd (hFd.blk (i := 2) rfl)) ?_)
            rintro e w31 ⟨cs31, es31, rfl, hvt31, hv31⟩
            refine ⟨_, rfl, ?_⟩
            have hF31 := hFd.putG (i := 2) rfl hv31
            simp only [List.set_cons_zero, List.set_cons_succ, List.cons_append] at hF31
            rw [← hm2.out] at hF31
            have hTn31 := box (hT2.out _ _ hFd _ _ hvt31)
            refine hK.out _ _ (⟨hF31.blk (i := 4) rfl, hrk.onG hF31 hgl hB⟩) (fun _ => ?_)
            clear hK K
            (try simp only [Act.put, List.setIfInBounds_toArray, List.set_cons_zero, List.set_cons_succ])
            refine rdy1 11 (fun K hK => ?_)
            refine stp (by with_unfolding_all rfl) (wp_fbs1 T_rvals hF31 (by with_unfolding_all rfl) (ds := cs31) (by with_unfolding_all rfl) hvt31.len (by decide) ?_)
            intro w32 g32 hF32 hz32
            refine hK.out _ _ (⟨hF32.blk (i := 5) rfl, hrk.onG hF32 hgl hB⟩) (fun _ => ?_)
            clear hK K
            (try simp only [Act.put, List.setIfInBounds_toArray, List.set_cons_zero, List.set_cons_succ])
            refine rdy1 12 (fun K hK => ?_)
            refine stp (by with_unfolding_all rfl) (wp_fappG T_rvals hF32 (i := 2) rfl (Nat.le_refl _) (hF32.rdOwn (i := 0) rfl) hvt31.one (by with_unfolding_all exact ⟨_, _, rfl, rfl, rfl⟩) (by unfold maxLen; omega) (by omega) ?_)
            intro v33 w33 hF33 hz33
            (try simp only [List.set_cons_zero, List.set_cons_succ] at hF33)
            obtain ⟨A33, c33, rfl, hc33⟩ := hF33.ownParts (i := 2) rfl
            refine hK.out _ _ (⟨hF33.blk (i := 5) rfl, hrk.onG hF33 hgl hB⟩) (fun _ => ?_)
            clear hK K
            (try simp only [Act.put, List.setIfInBounds_toArray, List.set_cons_zero, List.set_cons_succ])
            refine tkp 13 ⟨hF33.blk (i := 5) rfl, hrk.onG hF33 hgl hB⟩ ?_
            (try simp only [Act.put, List.setIfInBounds_toArray, List.set_cons_zero, List.set_cons_succ])
            refine rdy1 14 (fun K hK => ?_)
            refine stp (by with_unfolding_all rfl) (wp_fst hF33 (i := 1) rfl (v := .slice A33 (i + 1) c33) (by with_unfolding_all exact ⟨_, _, rfl, rfl, rfl⟩) (by kernel_rfl) rfl rfl (by rw [vlL_len]; decide) ?_)
            intro w34 hF34 hz34
            (try simp only [List.set_cons_zero, List.set_cons_succ] at hF34)
            rw [(vlL_4 (k := k) (n := n) (t := ⟨t.toArray⟩) (a := .slice An nn cn) (b := .slice Ai i ci'))] at hF34
            refine hK.out _ _ (⟨hF34.blk (i := 5) rfl, hrk.onG hF34 hgl hB⟩) (fun _ => ?_)
            clear hK K
            (try simp only [Act.put, List.setIfInBounds_toArray, List.set_cons_zero, List.set_cons_succ])
            refine wpAnyH_done (by kernel_rfl) ?_ _
            go_wp2_with fail
            go_roundg (nk - (i + 1))
            case rel => exact ⟨i + 1, A33, c33, _, _, _, m2, by omega, box rfl, by go_num, hc33, trivial, by omega, hTn31, box (by rw [hm2.out]; exact hJ2.out), hF34.tail⟩
            case measure => have := hkf.out; omega
          refine AllReadyH.cons (by simp only [List.getElem?_toArray, List.getElem?_cons_zero, List.getElem?_cons_succ]; rfl) (fun K hK => ?_) ?_
          · refine stp (by with_unfolding_all rfl) (wp_call Tryd.func17 rfl (by with_unfolding_all rfl) (by with_unfolding_all rfl) (by with_unfolding_all rfl) (ihc.out _ _ hFd (hFd.blk (i := 2) rfl)) ?_)
            rintro e w31 ⟨cs31, es31, rfl, hvt31, hv31⟩
            refine ⟨_, rfl, ?_⟩
            have hF31 := hFd.putG (i := 2) rfl hv31
            simp only [List.set_cons_zero, List.set_cons_succ, List.cons_append] at hF31
            rw [← hm2.out] at hF31
            have hTn31 := box (hT2.out _ _ hFd _ _ hvt31)
            refine hK.out _ _ (⟨hF31.blk (i := 4) rfl, hrk.onG hF31 hgl hB⟩) (fun _ => ?_)
            clear hK K
            (try simp only [Act.put, List.setIfInBounds_toArray, List.set_cons_zero, List.set_cons_succ])
            refine wpAnyH_ready (rs := [1, 11]) (by kernel_rfl) (by simp) ?_
            refine AllReadyH.cons (by simp only [List.getElem?_toArray, List.getElem?_cons_zero, List.getElem?_cons_succ]; rfl) (fun K hK => ?_) ?_
            · refine stp (by with_unfolding_all rfl) (wp_fld hF31 (i := 0) rfl Tryd.underlying31 rfl (by with_unfolding_all exact ⟨_, rfl, rfl⟩) rfl ?_)
              refine hK.out _ _ (⟨hF31.blk (i := 4) rfl, hrk.onG hF31 hgl hB⟩) (fun _ => ?_)
              clear hK K
              (try simp only [Act.put, List.setIfInBounds_toArray, List.set_cons_zero, List.set_cons_succ])
              refine rdy1 11 (fun K hK => ?_)
              refine stp (by with_unfolding_all rfl) (wp_fbs1 T_rvals hF31 (by with_unfolding_all rfl) (ds := cs31) (by with_unfolding_all rfl) hvt31.len (by decide) ?_)
              intro w32 g32 hF32 hz32
              refine hK.out _ _ (⟨hF32.blk (i := 5) rfl, hrk.onG hF32 hgl hB⟩) (fun _ => ?_)
              clear hK K
              (try simp only [Act.put, List.setIfInBounds_toArray, List.set_cons_zero, List.set_cons_succ])
              refine rdy1 12 (fun K hK => ?_)
              refine stp (by with_unfolding_all rfl) (wp_fappG T_rvals hF32 (i := 2) rfl (Nat.le_refl _) (hF32.rdOwn (i := 0) rfl) hvt31.one (by with_unfolding_all exact ⟨_, _, rfl, rfl, rfl⟩) (by unfold maxLen; omega) (by omega) ?_)
              intro v33 w33 hF33 hz33
              (try simp only [List.set_cons_zero, List.set_cons_succ] at hF33)
              obtain ⟨A33, c33, rfl, hc33⟩ := hF33.ownParts (i := 2) rfl
              refine hK.out _ _ (⟨hF33.blk (i := 5) rfl, hrk.onG hF33 hgl hB⟩) (fun _ => ?_)
              clear hK K
              (try simp only [Act.put, List.setIfInBounds_toArray, List.set_cons_zero, List.set_cons_succ])
              refine tkp 13 ⟨hF33.blk (i := 5) rfl, hrk.onG hF33 hgl hB⟩ ?_
              (try simp only [Act.put, List.setIfInBounds_toArray, List.set_cons_zero, List.set_cons_succ])
              refine rdy1 14 (fun K hK => ?_)
              refine stp (by with_unfolding_all rfl) (wp_fst hF33 (i := 1) rfl (v := .slice A33 (i + 1) c33) (by with_unfolding_all exact ⟨_, _, rfl, rfl, rfl⟩) (by kernel_rfl) rfl rfl (by rw [vlL_len]; decide) ?_)
              intro w34 hF34 hz34
              (try simp only [List.set_cons_zero, List.set_cons_succ] at hF34)
              rw [(vlL_4 (k := k) (n := n) (t := ⟨t.toArray⟩) (a := .slice An nn cn) (b := .slice Ai i ci'))] at hF34
              refine hK.out _ _ (⟨hF34.blk (i := 5) rfl, hrk.onG hF34 hgl hB⟩) (fun _ => ?_)
              clear hK K
              (try simp only [Act.put, List.setIfInBounds_toArray, List.set_cons_zero, List.set_cons_succ])
              refine wpAnyH_done (by kernel_rfl) ?_ _
              go_wp2_with fail
              go_roundg (nk - (i + 1))
              case rel => exact ⟨i + 1, A33, c33, _, _, _, m2, by omega, box rfl, by go_num, hc33, trivial, by omega, hTn31, box (by rw [hm2.out]; exact hJ2.out), hF34.tail⟩
              case measure => have := hkf.out; omega
            refine AllReadyH.cons (by simp only [List.getElem?_toArray, List.getElem?_cons_zero, List.getElem?_cons_succ]; rfl) (fun K hK => ?_) ?_
            · refine stp (by with_unfolding_all rfl) (wp_fbs1 T_rvals hF31 (by with_unfolding_all rfl) (ds := cs31) (by with_unfolding_all rfl) hvt31.len (by decide) ?_)
              intro w32 g32 hF32 hz32
              refine hK.out _ _ (⟨hF32.blk (i := 5) rfl, hrk.onG hF32 hgl hB⟩) (fun _ => ?_)
              clear hK K
              (try simp only [Act.put, List.setIfInBounds_toArray, List.set_cons_zero, List.set_cons_succ])
              refine rdy1 1 (fun K hK => ?_)
              refine stp (by with_unfolding_all rfl) (wp_fld hF32 (i := 1) rfl Tryd.underlying31 rfl (by with_unfolding_all exact ⟨_, rfl, rfl⟩) rfl ?_)
              refine hK.out _ _ (⟨hF32.blk (i := 5) rfl, hrk.onG hF32 hgl hB⟩) (fun _ => ?_)
              clear hK K
              (try simp only [Act.put, List.setIfInBounds_toArray, List.set_cons_zero, List.set_cons_succ])
              refine rdy1 12 (fun K hK => ?_)
              refine stp (by with_unfolding_all rfl) (wp_fappG T_rvals hF32 (i := 2) rfl (Nat.le_refl _) (hF32.rdOwn (i := 0) rfl) hvt31.one (by with_unfolding_all exact ⟨_, _, rfl, rfl, rfl⟩) (by unfold maxLen; omega) (by omega) ?_)
              intro v33 w33 hF33 hz33
              (try simp only [List.set_cons_zero, List.set_cons_succ] at hF33)
              obtain ⟨A33, c33, rfl, hc33⟩ := hF33.ownParts (i := 2) rfl
              refine hK.out _ _ (⟨hF33.blk (i := 5) rfl, hrk.onG hF33 hgl hB⟩) (fun _ => ?_)
              clear hK K
              (try simp only [Act.put, List.setIfInBounds_toArray, List.set_cons_zero, List.set_cons_succ])
              refine tkp 13 ⟨hF33.blk (i := 5) rfl, hrk.onG hF33 hgl hB⟩ ?_
              (try simp only [Act.put, List.setIfInBounds_toArray, List.set_cons_zero, List.set_cons_succ])
              refine rdy1 14 (fun K hK => ?_)
              refine stp (by with_unfolding_all rfl) (wp_fst hF33 (i := 1) rfl (v := .slice A33 (i + 1) c33) (by with_unfolding_all exact ⟨_, _, rfl, rfl, rfl⟩) (by kernel_rfl) rfl rfl (by rw [vlL_len]; decide) ?_)
              intro w34 hF34 hz34
              (try simp only [List.set_cons_zero, List.set_cons_succ] at hF34)
              rw [(vlL_4 (k := k) (n := n) (t := ⟨t.toArray⟩) (a := .slice An nn cn) (b := .slice Ai i ci'))] at hF34
              refine hK.out _ _ (⟨hF34.blk (i := 5) rfl, hrk.onG hF34 hgl hB⟩) (fun _ => ?_)
              clear hK K
              (try simp only [Act.put, List.setIfInBounds_toArray, List.set_cons_zero, List.set_cons_succ])
              refine wpAnyH_done (by kernel_rfl) ?_ _
              go_wp2_with fail
              go_roundg (nk - (i + 1))
              case rel => exact ⟨i + 1, A33, c33, _, _, _, m2, by omega, box rfl, by go_num, hc33, trivial, by omega, hTn31, box (by rw [hm2.out]; exact hJ2.out), hF34.tail⟩
              case measure => have := hkf.out; omega
            exact AllReadyH.nil
          exact AllReadyH.nil
        · have hjc0 : Box (jCutN (d + 1) (.mk k n t ns ks) m = (.mk k n t ns ys, m')) := box (by
            obtain rfl : m' = 0 := by omega
            have h := hJ.out
            rw [jCutL_zero] at h
            rw [jCutN, h, List.append_nil])
          clear hJ
          go_wp2_with (first | (with_reducible refine lst (by with_unfolding_all rfl) (wp_fld4 hF Tryd.underlying31 rfl (by with_unfolding_all exact ⟨_, rfl, rfl⟩) rfl ?_)) | (with_reducible refine lst (by with_unfolding_all rfl) (wp_fld2 hF Tryd.underlying3 rfl (by with_unfolding_all exact ⟨_, rfl, rfl⟩) rfl ?_)) | (with_reducible refine lst (by with_unfolding_all rfl) (wp_fldA0 hF Tryd.underlying33 rfl (by with_unfolding_all exact ⟨_, rfl, rfl⟩) (ds := (vlL k n ⟨t.toArray⟩ (.slice An nn cn) (.slice Ai i ci'))) (by rw [vlL_len]; kernel_rfl) (take_all _) ?_)) | ((with_reducible refine lst (by with_unfolding_all rfl) (wp_fstA3 hF (by with_unfolding_all exact ⟨_, _, rfl, rfl, rfl⟩) (by rw [vlL_len]; kernel_rfl) vlL_one vlL_fit vlL_spl ?_)); intro w9 hF9 hz9))
          exact bodyPost_ret (results_cellF rfl _ hF9 (i := 3) rfl rfl Tryd.underlying33 rfl (by rw [vlL_len]; kernel_rfl)) rfl (by
            have hjc : jCutN (d + 1) (.mk k n t ns ks) m = (.mk k n t ns ys, m') := by exact hjc0.out
            rw [hjc]
            refine ⟨_, _, rfl, VC.mk_ hcn hci' hrn hT.out, ?_⟩
            have h1 := hF9.toRd (i := 1) rfl
            simp only [List.set_cons_succ, List.set_cons_zero] at h1
            refine (h1.sub (es' := .rd Ai 5 i xs :: .blk gl 3 [.int .i64 (m' : Int)] :: TE) ?_).perm (List.Perm.swap _ _ _)
            exact (((List.Sublist.refl _).cons _).cons _).cons_cons _ |>.cons_cons _ |>.cons _)
      · have hjc0 : Box (jCutN (d + 1) (.mk k n t ns ks) m = (.mk k n t ns ys, m')) := box (by
          have h := hJ.out
          rw [List.drop_of_length_le (by rw [hnk.out]; omega), jCutL] at h
          rw [jCutN, h, List.append_nil])
        clear hJ
        go_wp2_with (first | (with_reducible refine lst (by with_unfolding_all rfl) (wp_fld4 hF Tryd.underlying31 rfl (by with_unfolding_all exact ⟨_, rfl, rfl⟩) rfl ?_)) | (with_reducible refine lst (by with_unfolding_all rfl) (wp_fld2 hF Tryd.underlying3 rfl (by with_unfolding_all exact ⟨_, rfl, rfl⟩) rfl ?_)) | (with_reducible refine lst (by with_unfolding_all rfl) (wp_fldA0 hF Tryd.underlying33 rfl (by with_unfolding_all exact ⟨_, rfl, rfl⟩) (ds := (vlL k n ⟨t.toArray⟩ (.slice An nn cn) (.slice Ai i ci'))) (by rw [vlL_len]; kernel_rfl) (take_all _) ?_)) | ((with_reducible refine lst (by with_unfolding_all rfl) (wp_fstA3 hF (by with_unfolding_all exact ⟨_, _, rfl, rfl, rfl⟩) (by rw [vlL_len]; kernel_rfl) vlL_one vlL_fit vlL_spl ?_)); intro w9 hF9 hz9))
        exact bodyPost_ret (results_cellF rfl _ hF9 (i := 3) rfl rfl Tryd.underlying33 rfl (by rw [vlL_len]; kernel_rfl)) rfl (by
          have hjc : jCutN (d + 1) (.mk k n t ns ks) m = (.mk k n t ns ys, m') := by exact hjc0.out
          rw [hjc]
          refine ⟨_, _, rfl, VC.mk_ hcn hci' hrn hT.out, ?_⟩
          have h1 := hF9.toRd (i := 1) rfl
          simp only [List.set_cons_succ, List.set_cons_zero] at h1
          refine (h1.sub (es' := .rd Ai 5 i xs :: .blk gl 3 [.int .i64 (m' : Int)] :: TE) ?_).perm (List.Perm.swap _ _ _)
          exact (((List.Sublist.refl _).cons _).cons _).cons_cons _ |>.cons_cons _ |>.cons _)

end Go.Proofs.YtdekogmegdhjoaaDoor

namespace Go.Proofs.YtdekogmegdhjoaaDoor
open Go.RowKit

def jFieldL (nm : List UInt8) : List (List UInt8) → List JV → Option JV
  | s :: ns, v :: ks => if s = nm then some v else jFieldL nm ns ks
  | _, _ => none
/-- A member of an object. -/
def jField (nm : List UInt8) : JV → Option JV
  | .mk k _ _ ns ks => if k = 6 then jFieldL nm ns ks else none
theorem jFieldL_here {nm : List UInt8} {ns : List (List UInt8)} {ks : List JV} {i : Nat} {v : JV} (hs : ns[i]? = some nm) (hv : ks[i]? = some v) : jFieldL nm (ns.drop i) (ks.drop i) = some v := by
  rw [List.drop_eq_getElem_cons (List.getElem?_eq_some_iff.1 hv).1, (List.getElem?_eq_some_iff.1 hv).2, List.drop_eq_getElem_cons (List.getElem?_eq_some_iff.1 hs).1, (List.getElem?_eq_some_iff.1 hs).2, jFieldL, if_pos rfl]
theorem jFieldL_out {nm : List UInt8} {ns : List (List UInt8)} {ks : List JV} {i : Nat} (h : ns.length ≤ i ∨ ks.length ≤ i) : jFieldL nm (ns.drop i) (ks.drop i) = none := by
  rcases h with h | h
  · rw [List.drop_of_length_le h, jFieldL]; rintro _ _ _ _ h; cases h
  · rw [List.drop_of_length_le h, jFieldL]; rintro _ _ _ _ _ h; cases h
theorem jFieldL_next {nm s : List UInt8} {ns : List (List UInt8)} {ks : List JV} {i : Nat} (hs : ns[i]? = some s) (h : s ≠ nm ∨ ks.length ≤ i) : jFieldL nm (ns.drop i) (ks.drop i) = jFieldL nm (ns.drop (i + 1)) (ks.drop (i + 1)) := by
  rcases Nat.lt_or_ge i ks.length with hi | hi
  · have hv : ks[i]? = some ks[i] := List.getElem?_eq_getElem hi
    rw [List.drop_eq_getElem_cons hi, List.drop_eq_getElem_cons (List.getElem?_eq_some_iff.1 hs).1, (List.getElem?_eq_some_iff.1 hs).2, jFieldL, if_neg (h.resolve_right (by omega))]
  · rw [jFieldL_out (.inr hi), jFieldL_out (.inr (by omega))]
/-- What the two programs' Field tells. -/
def FieldPost (w : World) (B : Nat) (nm : List UInt8) (v : JV) (e : Ending) (w' : World) : Prop :=
  ∃ cs', e = .returned (.tuple #[.agg cs'.toArray, .bool (jField nm v).isSome]) ∧ VRd w (· < B) ((jField nm v).getD .null) cs' ∧ Below w.heap.size w w'
theorem null_rd (w : World) (S : Nat → Prop) : VRd w S .null vl0 := by
  unfold JV.null
  rw [VRd]
  refine ⟨none, 0, 0, none, 0, 0, [], Nat.le_refl _, Nat.le_refl _, rfl, Rd.nil _ _ _ _, Rd.nil _ _ _ _, by rw [VRdL]⟩
end Go.Proofs.YtdekogmegdhjoaaDoor

namespace Go.Proofs.YtdekogmegdhjoaaDoor

theorem jWL_cut {f : JV → Nat → JV × Nat} (hf : ∀ v m, jW (f v m).1 ≤ jW v) : ∀ (ks : List JV) (m : Nat), jWL (jCutL f ks m).1 ≤ jWL ks
  | [], m => Nat.le_refl _
  | v :: vs, 0 => by rw [jCutL, jWL]; omega
  | v :: vs, m + 1 => by
    rw [jCutL]
    have h1 := jWL_cut hf vs (f v m).2
    have h2 := hf v m
    simp only [jWL]
    omega
theorem jW_cut : ∀ (d : Nat) (v : JV) (m : Nat), jW (jCutN d v m).1 ≤ jW v
  | 0, .mk k n t ns ks, m => by rw [jCutN]; simp only [jW, jWL]; omega
  | d + 1, .mk k n t ns ks, m => by
    rw [jCutN]
    have := jWL_cut (jW_cut d) ks m
    simp only [jW]
    omega
theorem JIL_cut {f : JV → Nat → JV × Nat} (hf : ∀ v m, JI v → JI (f v m).1) : ∀ (ks : List JV) (m : Nat), JIL ks → JIL (jCutL f ks m).1
  | [], m, _ => by rw [jCutL, JIL]; trivial
  | v :: vs, 0, _ => by rw [jCutL, JIL]; trivial
  | v :: vs, m + 1, h => by
    rw [jCutL]
    rw [JIL] at h
    simp only [JIL]
    exact ⟨hf v m h.1, JIL_cut hf vs _ h.2⟩
theorem JI_cut : ∀ (d : Nat) (v : JV) (m : Nat), JI v → JI (jCutN d v m).1
  | 0, .mk k n t ns ks, m, h => by rw [jCutN]; rw [JI] at h; simp only [JI, JIL]; exact ⟨h.1, h.2.1, trivial⟩
  | d + 1, .mk k n t ns ks, m, h => by
    rw [jCutN]
    rw [JI] at h
    simp only [JI]
    exact ⟨h.1, h.2.1, JIL_cut (JI_cut d) ks m h.2.2⟩
/-- A value that is no deeper. -/
def JDep : Nat → JV → Prop
  | 0, .mk _ _ _ _ ks => ks = []
  | d + 1, .mk _ _ _ _ ks => ∀ v ∈ ks, JDep d v
theorem jCut_dep : ∀ {d D : Nat} {v : JV}, d ≤ D → JDep d v → jCut D v = v
  | 0, D, .mk k n t ns ks, _, h => by
    rw [JDep] at h
    subst h
    cases D <;> rw [jCut] <;> rfl
  | d + 1, 0, v, hD, _ => by omega
  | d + 1, D + 1, .mk k n t ns ks, hD, h => by
    rw [JDep] at h
    rw [jCut]
    congr 1
    have : ∀ v ∈ ks, jCut D v = v := fun v hv => jCut_dep (by omega) (h v hv)
    calc ks.map (jCut D) = ks.map id := List.map_congr_left this
      _ = ks := List.map_id _
theorem jCutL_mem {f : JV → Nat → JV × Nat} {Q : JV → Prop} (hf : ∀ v m, Q (f v m).1) : ∀ (ks : List JV) (m : Nat), ∀ v ∈ (jCutL f ks m).1, Q v
  | [], m, v, h => by cases h
  | _ :: _, 0, v, h => by cases h
  | x :: vs, m + 1, v, h => by
    rw [jCutL] at h
    rcases List.mem_cons.1 h with rfl | h
    · exact hf x m
    · exact jCutL_mem hf vs _ v h
theorem jCutN_dep : ∀ (d : Nat) (v : JV) (m : Nat), JDep d (jCutN d v m).1
  | 0, .mk k n t ns ks, m => by rw [jCutN, JDep]
  | d + 1, .mk k n t ns ks, m => by
    rw [jCutN, JDep]
    exact jCutL_mem (jCutN_dep d) ks m
theorem jCut_cut {d D : Nat} (h : d ≤ D) (v : JV) (m : Nat) : jCut D (jCutN d v m).1 = (jCutN d v m).1 := jCut_dep h (jCutN_dep d v m)
theorem JDep.up : ∀ {d : Nat} {v : JV}, JDep d v → JDep (d + 1) v
  | 0, .mk k n t ns ks, h => by rw [JDep] at h; subst h; rw [JDep]; intro v hv; cases hv
  | d + 1, .mk k n t ns ks, h => by
    rw [JDep] at h
    rw [JDep]
    exact fun v hv => (h v hv).up
theorem jFieldL_dep {nm : List UInt8} {Q : JV → Prop} : ∀ (ns : List (List UInt8)) (ks : List JV) (v : JV), jFieldL nm ns ks = some v → (∀ v ∈ ks, Q v) → Q v
  | [], ks, v, h, _ => by cases ks <;> cases h
  | _ :: _, [], v, h, _ => by cases h
  | s :: ns, x :: ks, v, h, hq => by
    rw [jFieldL] at h
    split at h
    · injection h with h; subst h; exact hq _ (by simp)
    · exact jFieldL_dep ns ks v h (fun v hv => hq v (by simp [hv]))
theorem JSmL_mem {ks : List JV} (h : JSmL ks) : ∀ v ∈ ks, JSm v := fun v hv => by
  obtain ⟨i, hi⟩ := List.mem_iff_getElem?.1 hv
  exact h.at hi
/-- A member is no deeper than its object. -/
theorem field_dep {nm : List UInt8} {d : Nat} {v : JV} (h : JDep d v) : JDep d ((jField nm v).getD .null) := by
  obtain ⟨k, n, t, ns, ks⟩ := v
  cases hj : jField nm (.mk k n t ns ks) with
  | none => cases d <;> (unfold JV.null; simp [JDep])
  | some x =>
    rw [jField] at hj
    split at hj
    · cases d with
      | zero => rw [JDep] at h; subst h; cases ns <;> cases hj
      | succ d => rw [JDep] at h; exact (jFieldL_dep ns ks x hj h).up
    · cases hj
theorem field_sm {nm : List UInt8} {v : JV} (h : JSm v) : JSm ((jField nm v).getD .null) := by
  obtain ⟨k, n, t, ns, ks⟩ := v
  cases hj : jField nm (.mk k n t ns ks) with
  | none => unfold JV.null; simp [JSm, JSmL]
  | some x =>
    rw [jField] at hj
    rw [JSm] at h
    split at hj
    · exact jFieldL_dep ns ks x hj (JSmL_mem h.2.2)
    · cases hj
end Go.Proofs.YtdekogmegdhjoaaDoor

namespace Go.Proofs.YtdekogmegdhjoaaDoor
open Go.RowKit
set_option linter.unusedSimpArgs false


set_option maxRecDepth 20000 in
set_option maxHeartbeats 6400000 in
theorem field_any (v : JV) (cs : List Value) (nm : List UInt8) (w : World) (B : Nat) (hB : B ≤ w.heap.size) (hv : VRd w (· < B) v cs) (hsm : JSm v) :
    Calls Tryd.prog 19 #[.agg cs.toArray, .string ⟨nm.toArray⟩] w (FieldPost w B nm v) := by
  obtain ⟨k, n, t, ns, ks⟩ := v
  rw [VRd] at hv
  obtain ⟨An, nn, cn, Ak, nk, ck, xk, hcn, hck, rfl, hrn, hrk, hvk⟩ := hv
  rw [JSm] at hsm
  obtain ⟨hs1, hs2, hs3⟩ := hsm
  have hnn : ns.length = nn := by have := hrn.len; simpa using this
  have hnk : ks.length = nk := by have := hrk.len; rw [hvk.len] at this; omega
  rw [hnn] at hs1
  rw [hnk] at hs2
  replace hnn := box hnn
  replace hnk := box hnk
  replace hvk := box hvk
  have hF0 := Fr.nil w
  by_cases hk6 : k = 6
  · have d6 : (k != 6) = false := by rw [bne_eq_false_iff_eq]; exact hk6
    have hjf0 : Box (jField nm (.mk k n t ns ks) = jFieldL nm ns ks) := box (by rw [jField, if_pos hk6])
    replace hk6 := box hk6
    go_enter Tryd.func19, Tryd.ntmps19
    go_wp2_with (first | ((with_reducible refine lst (by with_unfolding_all rfl) (wp_fbox hF0 (cs := (vlL k n ⟨t.toArray⟩ (.slice An nn cn) (.slice Ak nk ck))) rfl (by with_unfolding_all rfl) (by with_unfolding_all rfl) ?_)); intro w1 g1 hF1 hz1) | ((with_reducible refine lst (by with_unfolding_all rfl) (wp_falloc hF1 (cs := vl0) (z := .agg (List.toArray (vl0))) rfl (by kernel_rfl) (by with_unfolding_all rfl) ?_)); intro w2 g2 hF2 hz2) | (with_reducible refine lst (by with_unfolding_all rfl) (wp_fld1 hF2 Tryd.underlying3 rfl (by with_unfolding_all exact ⟨_, rfl, rfl⟩) rfl ?_)) | (with_reducible refine lst (by with_unfolding_all rfl) (wp_fld1 hF2 Tryd.underlying24 rfl (by with_unfolding_all exact ⟨_, rfl, rfl⟩) rfl ?_)))
    clear hF0 hF1
    go_loopg [15] nn (fun gk s wr => ∃ i : Nat, i ≤ nn ∧ Box (gk = nn - i) ∧ s = .int .i64 (i : Int) ∧ Box (jFieldL nm ns ks = jFieldL nm (ns.drop i) (ks.drop i)) ∧ Fr [] w wr [.blk g2 27 vl0, .blk g1 27 (vlL k n ⟨t.toArray⟩ (.slice An nn cn) (.slice Ak nk ck))])
    case atStart => exact ⟨0, by omega, box rfl, rfl, box (by simp), hF2⟩
    case round =>
      clear hF2
      obtain ⟨i, hi, hk, rfl, hJ, hF⟩ := hrel
      have hrn' := hrn.below (hF.below.mono hB)
      have hrk' := hrk.below (hF.below.mono hB)
      by_cases hlt : i < nn
      · obtain ⟨s, hs⟩ : ∃ s, ns[i]? = some s := ⟨ns[i]'(by rw [hnn.out]; exact hlt), by simp⟩
        have hss : Box ((ns.map strv)[i]? = some (.string ⟨s.toArray⟩)) := box (by rw [List.getElem?_map, hs]; rfl)
        by_cases hik : i < nk
        · by_cases hst : s = nm
          · subst hst
            obtain ⟨vi, hvi⟩ : ∃ vi, ks[i]? = some vi := ⟨ks[i]'(by rw [hnk.out]; exact hik), by simp⟩
            obtain ⟨ci, hci, hvri⟩ := hvk.out.at hvi
            have hcil := box hvri.len
            have hcio := box hvri.one
            replace hci := box hci
            replace hvri := box hvri
            have hjf : Box (jField s (.mk k n t ns ks) = some vi) := box (by rw [hjf0.out, hJ.out]; exact jFieldL_here hs hvi)
            replace hs := box hs
            replace hvi := box hvi
            go_wp2_with (first | (with_reducible refine lst (by with_unfolding_all rfl) (wp_fld1 hF Tryd.underlying24 rfl (by with_unfolding_all exact ⟨_, rfl, rfl⟩) rfl ?_)) | (with_reducible refine lst (by with_unfolding_all rfl) (wp_fld1 hF Tryd.underlying3 rfl (by with_unfolding_all exact ⟨_, rfl, rfl⟩) rfl ?_)) | (with_reducible refine lst (by with_unfolding_all rfl) (wp_fld1 hF Tryd.underlying25 rfl (by with_unfolding_all exact ⟨_, rfl, rfl⟩) rfl ?_)) | (with_reducible refine lst (by with_unfolding_all rfl) (wp_indexAddr T_strs hrn' (by with_unfolding_all exact ⟨_, _, _, _, rfl, rfl, rfl⟩) (by omega) (by omega) ?_)) | (with_reducible refine lst (by with_unfolding_all rfl) (wp_load1C hrn' hss Tryd.underlying9 rfl (by with_unfolding_all exact ⟨_, rfl, rfl⟩) (by first | (simp; done) | (simp; omega) | omega) ?_)) | (with_reducible refine lst (by with_unfolding_all rfl) (wp_indexAddr T_vals hrk' (by with_unfolding_all exact ⟨_, _, _, _, rfl, rfl, rfl⟩) (by omega) (by omega) ?_)) | (with_reducible refine lst (by with_unfolding_all rfl) (wp_loadA hrk' Tryd.underlying27 rfl (by with_unfolding_all exact ⟨_, rfl, rfl⟩) (ds := ci) (by rw [hcil.out]; kernel_rfl) (by rw [hcil.out]; with_unfolding_all exact hci.out) ?_)) | ((with_reducible refine lst (by with_unfolding_all rfl) (wp_fstA0 hF (by with_unfolding_all exact ⟨_, _, rfl, rfl, rfl⟩) (by rw [hcil.out]; kernel_rfl) hcio.out (by rw [hcil.out, vlL_len]; decide) (spl_all (by rw [hcil.out, vlL_len])) ?_)); intro w9 hF9 hz9))
            exact bodyPost_ret (results_cellF2 rfl _ hF9 (i := 0) rfl rfl Tryd.underlying27 rfl (by rw [hcil.out]; kernel_rfl)) rfl (by
              unfold FieldPost
              rw [hjf.out]
              exact ⟨_, rfl, hvri.out, hF9.below⟩)
          · have hst2 : (s == nm) = false := by rw [beq_eq_false_iff_ne]; exact hst
            have hJ2 : Box (jFieldL nm ns ks = jFieldL nm (ns.drop (i + 1)) (ks.drop (i + 1))) := box (hJ.out.trans (jFieldL_next hs (.inl hst)))
            replace hst := box hst
            replace hs := box hs
            go_wp2_with (first | (with_reducible refine lst (by with_unfolding_all rfl) (wp_fld1 hF Tryd.underlying24 rfl (by with_unfolding_all exact ⟨_, rfl, rfl⟩) rfl ?_)) | (with_reducible refine lst (by with_unfolding_all rfl) (wp_fld1 hF Tryd.underlying3 rfl (by with_unfolding_all exact ⟨_, rfl, rfl⟩) rfl ?_)) | (with_reducible refine lst (by with_unfolding_all rfl) (wp_fld1 hF Tryd.underlying25 rfl (by with_unfolding_all exact ⟨_, rfl, rfl⟩) rfl ?_)) | (with_reducible refine lst (by with_unfolding_all rfl) (wp_indexAddr T_strs hrn' (by with_unfolding_all exact ⟨_, _, _, _, rfl, rfl, rfl⟩) (by omega) (by omega) ?_)) | (with_reducible refine lst (by with_unfolding_all rfl) (wp_load1C hrn' hss Tryd.underlying9 rfl (by with_unfolding_all exact ⟨_, rfl, rfl⟩) (by first | (simp; done) | (simp; omega) | omega) ?_)))
            go_roundg (nn - (i + 1))
            case rel => exact ⟨i + 1, by omega, box rfl, by go_num, hJ2, hF⟩
            case measure => have := hk.out; omega
        · have hJ2 : Box (jFieldL nm ns ks = jFieldL nm (ns.drop (i + 1)) (ks.drop (i + 1))) := box (hJ.out.trans (jFieldL_next hs (.inr (by rw [hnk.out]; omega))))
          replace hs := box hs
          cases hst : (s == nm) with
          | false =>
            go_wp2_with (first | (with_reducible refine lst (by with_unfolding_all rfl) (wp_fld1 hF Tryd.underlying25 rfl (by with_unfolding_all exact ⟨_, rfl, rfl⟩) rfl ?_)) | (with_reducible refine lst (by with_unfolding_all rfl) (wp_indexAddr T_strs hrn' (by with_unfolding_all exact ⟨_, _, _, _, rfl, rfl, rfl⟩) (by omega) (by omega) ?_)) | (with_reducible refine lst (by with_unfolding_all rfl) (wp_load1C hrn' hss Tryd.underlying9 rfl (by with_unfolding_all exact ⟨_, rfl, rfl⟩) (by first | (simp; done) | (simp; omega) | omega) ?_)))
            go_roundg (nn - (i + 1))
            case rel => exact ⟨i + 1, by omega, box rfl, by go_num, hJ2, hF⟩
            case measure => have := hk.out; omega
          | true =>
            go_wp2_with (first | (with_reducible refine lst (by with_unfolding_all rfl) (wp_fld1 hF Tryd.underlying25 rfl (by with_unfolding_all exact ⟨_, rfl, rfl⟩) rfl ?_)) | (with_reducible refine lst (by with_unfolding_all rfl) (wp_indexAddr T_strs hrn' (by with_unfolding_all exact ⟨_, _, _, _, rfl, rfl, rfl⟩) (by omega) (by omega) ?_)) | (with_reducible refine lst (by with_unfolding_all rfl) (wp_load1C hrn' hss Tryd.underlying9 rfl (by with_unfolding_all exact ⟨_, rfl, rfl⟩) (by first | (simp; done) | (simp; omega) | omega) ?_)))
            go_roundg (nn - (i + 1))
            case rel => exact ⟨i + 1, by omega, box rfl, by go_num, hJ2, hF⟩
            case measure => have := hk.out; omega
      · have hjf : Box (jField nm (.mk k n t ns ks) = none) := box (by rw [hjf0.out, hJ.out]; exact jFieldL_out (.inl (by rw [hnn.out]; omega)))
        go_wp2_with (first | (with_reducible refine lst (by with_unfolding_all rfl) (wp_fld1 hF Tryd.underlying24 rfl (by with_unfolding_all exact ⟨_, rfl, rfl⟩) rfl ?_)) | (with_reducible refine lst (by with_unfolding_all rfl) (wp_fld1 hF Tryd.underlying25 rfl (by with_unfolding_all exact ⟨_, rfl, rfl⟩) rfl ?_)) | (with_reducible refine lst (by with_unfolding_all rfl) (wp_fbuild Tryd.underlying27 (z := .agg (List.toArray vl0)) (by kernel_rfl) (pl := vlP) (by kernel_rfl) (cs := vl0) rfl (vs := []) (by with_unfolding_all rfl) (by with_unfolding_all rfl) ?_)) | ((with_reducible refine lst (by with_unfolding_all rfl) (wp_fstA0 hF (by with_unfolding_all exact ⟨_, _, rfl, rfl, rfl⟩) (by rw [vlL_len]; kernel_rfl) vlL_one vlL_fit vlL_spl ?_)); intro w9 hF9 hz9))
        exact bodyPost_ret (results_cellF2 rfl _ hF9 (i := 0) rfl rfl Tryd.underlying27 rfl (by rw [vlL_len]; kernel_rfl)) rfl (by
          unfold FieldPost
          rw [hjf.out]
          exact ⟨_, rfl, null_rd _ _, hF9.below⟩)
  · have d6 : (k != 6) = true := by rw [bne_iff_ne]; exact hk6
    have hjf : Box (jField nm (.mk k n t ns ks) = none) := box (by rw [jField, if_neg hk6])
    replace hk6 := box hk6
    go_enter Tryd.func19, Tryd.ntmps19
    go_wp2_with (first | ((with_reducible refine lst (by with_unfolding_all rfl) (wp_fbox hF0 (cs := (vlL k n ⟨t.toArray⟩ (.slice An nn cn) (.slice Ak nk ck))) rfl (by with_unfolding_all rfl) (by with_unfolding_all rfl) ?_)); intro w1 g1 hF1 hz1) | ((with_reducible refine lst (by with_unfolding_all rfl) (wp_falloc hF1 (cs := vl0) (z := .agg (List.toArray (vl0))) rfl (by kernel_rfl) (by with_unfolding_all rfl) ?_)); intro w2 g2 hF2 hz2) | (with_reducible refine lst (by with_unfolding_all rfl) (wp_fld1 hF2 Tryd.underlying3 rfl (by with_unfolding_all exact ⟨_, rfl, rfl⟩) rfl ?_)) | (with_reducible refine lst (by with_unfolding_all rfl) (wp_fbuild Tryd.underlying27 (z := .agg (List.toArray vl0)) (by kernel_rfl) (pl := vlP) (by kernel_rfl) (cs := vl0) rfl (vs := []) (by with_unfolding_all rfl) (by with_unfolding_all rfl) ?_)) | ((with_reducible refine lst (by with_unfolding_all rfl) (wp_fstA0 hF2 (by with_unfolding_all exact ⟨_, _, rfl, rfl, rfl⟩) (by rw [vlL_len]; kernel_rfl) vlL_one vlL_fit vlL_spl ?_)); intro w9 hF9 hz9))
    exact bodyPost_ret (results_cellF2 rfl _ hF9 (i := 0) rfl rfl Tryd.underlying27 rfl (by rw [vlL_len]; kernel_rfl)) rfl (by
      unfold FieldPost
      rw [hjf.out]
      exact ⟨_, rfl, null_rd _ _, hF9.below⟩)

set_option maxRecDepth 20000 in
set_option maxHeartbeats 6400000 in
theorem rfield_any (v : JV) (cs : List Value) (nm : List UInt8) (w : World) (B : Nat) (hB : B ≤ w.heap.size) (hv : VRd w (· < B) v cs) (hsm : JSm v) :
    Calls Tryd.prog 20 #[.agg cs.toArray, .string ⟨nm.toArray⟩] w (FieldPost w B nm v) := by
  obtain ⟨k, n, t, ns, ks⟩ := v
  rw [VRd] at hv
  obtain ⟨An, nn, cn, Ak, nk, ck, xk, hcn, hck, rfl, hrn, hrk, hvk⟩ := hv
  rw [JSm] at hsm
  obtain ⟨hs1, hs2, hs3⟩ := hsm
  have hnn : ns.length = nn := by have := hrn.len; simpa using this
  have hnk : ks.length = nk := by have := hrk.len; rw [hvk.len] at this; omega
  rw [hnn] at hs1
  rw [hnk] at hs2
  replace hnn := box hnn
  replace hnk := box hnk
  replace hvk := box hvk
  have hF0 := Fr.nil w
  by_cases hk6 : k = 6
  · have d6 : (k == 6) = true := by rw [beq_iff_eq]; exact hk6
    have hjf0 : Box (jField nm (.mk k n t ns ks) = jFieldL nm ns ks) := box (by rw [jField, if_pos hk6])
    replace hk6 := box hk6
    go_enter Tryd.func20, Tryd.ntmps20
    go_wp2_with (first | ((with_reducible refine lst (by with_unfolding_all rfl) (wp_fbox hF0 (cs := (vlL k n ⟨t.toArray⟩ (.slice An nn cn) (.slice Ak nk ck))) rfl (by with_unfolding_all rfl) (by with_unfolding_all rfl) ?_)); intro w1 g1 hF1 hz1) | ((with_reducible refine lst (by with_unfolding_all rfl) (wp_falloc hF1 (cs := vl0) (z := .agg (List.toArray (vl0))) rfl (by kernel_rfl) (by with_unfolding_all rfl) ?_)); intro w2 g2 hF2 hz2))
    clear hF0 hF1
    go_loopg [6] nn (fun gk s wr => ∃ i : Nat, i ≤ nn ∧ Box (gk = nn - i) ∧ s = .int .i64 (i : Int) ∧ Box (jFieldL nm ns ks = jFieldL nm (ns.drop i) (ks.drop i)) ∧ Fr [] w wr [.blk g2 33 vl0, .blk g1 33 (vlL k n ⟨t.toArray⟩ (.slice An nn cn) (.slice Ak nk ck))])
    case atStart => exact ⟨0, by omega, box rfl, rfl, box (by simp), hF2⟩
    case round =>
      clear hF2
      obtain ⟨i, hi, hk, rfl, hJ, hF⟩ := hrel
      have hrn' := hrn.below (hF.below.mono hB)
      have hrk' := hrk.below (hF.below.mono hB)
      by_cases hlt : i < nn
      · obtain ⟨s, hs⟩ : ∃ s, ns[i]? = some s := ⟨ns[i]'(by rw [hnn.out]; exact hlt), by simp⟩
        have hss : Box ((ns.map strv)[i]? = some (.string ⟨s.toArray⟩)) := box (by rw [List.getElem?_map, hs]; rfl)
        by_cases hik : i < nk
        · by_cases hst : s = nm
          · subst hst
            obtain ⟨vi, hvi⟩ : ∃ vi, ks[i]? = some vi := ⟨ks[i]'(by rw [hnk.out]; exact hik), by simp⟩
            obtain ⟨ci, hci, hvri⟩ := hvk.out.at hvi
            have hcil := box hvri.len
            have hcio := box hvri.one
            replace hci := box hci
            replace hvri := box hvri
            have hjf : Box (jField s (.mk k n t ns ks) = some vi) := box (by rw [hjf0.out, hJ.out]; exact jFieldL_here hs hvi)
            replace hs := box hs
            replace hvi := box hvi
            go_wp2_with (first | (with_reducible refine lst (by with_unfolding_all rfl) (wp_fld1 hF Tryd.underlying24 rfl (by with_unfolding_all exact ⟨_, rfl, rfl⟩) rfl ?_)) | (with_reducible refine lst (by with_unfolding_all rfl) (wp_fld1 hF Tryd.underlying3 rfl (by with_unfolding_all exact ⟨_, rfl, rfl⟩) rfl ?_)) | (with_reducible refine lst (by with_unfolding_all rfl) (wp_fld1 hF Tryd.underlying31 rfl (by with_unfolding_all exact ⟨_, rfl, rfl⟩) rfl ?_)) | (with_reducible refine lst (by with_unfolding_all rfl) (wp_indexAddr T_strs hrn' (by with_unfolding_all exact ⟨_, _, _, _, rfl, rfl, rfl⟩) (by omega) (by omega) ?_)) | (with_reducible refine lst (by with_unfolding_all rfl) (wp_load1C hrn' hss Tryd.underlying9 rfl (by with_unfolding_all exact ⟨_, rfl, rfl⟩) (by first | (simp; done) | (simp; omega) | omega) ?_)) | (with_reducible refine lst (by with_unfolding_all rfl) (wp_indexAddr T_rvals hrk' (by with_unfolding_all exact ⟨_, _, _, _, rfl, rfl, rfl⟩) (by omega) (by omega) ?_)) | (with_reducible refine lst (by with_unfolding_all rfl) (wp_loadA hrk' Tryd.underlying33 rfl (by with_unfolding_all exact ⟨_, rfl, rfl⟩) (ds := ci) (by rw [hcil.out]; kernel_rfl) (by rw [hcil.out]; with_unfolding_all exact hci.out) ?_)) | ((with_reducible refine lst (by with_unfolding_all rfl) (wp_fstA0 hF (by with_unfolding_all exact ⟨_, _, rfl, rfl, rfl⟩) (by rw [hcil.out]; kernel_rfl) hcio.out (by rw [hcil.out, vlL_len]; decide) (spl_all (by rw [hcil.out, vlL_len])) ?_)); intro w9 hF9 hz9))
            exact bodyPost_ret (results_cellF2 rfl _ hF9 (i := 0) rfl rfl Tryd.underlying33 rfl (by rw [hcil.out]; kernel_rfl)) rfl (by
              unfold FieldPost
              rw [hjf.out]
              exact ⟨_, rfl, hvri.out, hF9.below⟩)
          · have hst2 : (s == nm) = false := by rw [beq_eq_false_iff_ne]; exact hst
            have hJ2 : Box (jFieldL nm ns ks = jFieldL nm (ns.drop (i + 1)) (ks.drop (i + 1))) := box (hJ.out.trans (jFieldL_next hs (.inl hst)))
            replace hst := box hst
            replace hs := box hs
            go_wp2_with (first | (with_reducible refine lst (by with_unfolding_all rfl) (wp_fld1 hF Tryd.underlying24 rfl (by with_unfolding_all exact ⟨_, rfl, rfl⟩) rfl ?_)) | (with_reducible refine lst (by with_unfolding_all rfl) (wp_fld1 hF Tryd.underlying3 rfl (by with_unfolding_all exact ⟨_, rfl, rfl⟩) rfl ?_)) | (with_reducible refine lst (by with_unfolding_all rfl) (wp_fld1 hF Tryd.underlying31 rfl (by with_unfolding_all exact ⟨_, rfl, rfl⟩) rfl ?_)) | (with_reducible refine lst (by with_unfolding_all rfl) (wp_indexAddr T_strs hrn' (by with_unfolding_all exact ⟨_, _, _, _, rfl, rfl, rfl⟩) (by omega) (by omega) ?_)) | (with_reducible refine lst (by with_unfolding_all rfl) (wp_load1C hrn' hss Tryd.underlying9 rfl (by with_unfolding_all exact ⟨_, rfl, rfl⟩) (by first | (simp; done) | (simp; omega) | omega) ?_)))
            go_roundg (nn - (i + 1))
            case rel => exact ⟨i + 1, by omega, box rfl, by go_num, hJ2, hF⟩
            case measure => have := hk.out; omega
        · have hjf : Box (jField nm (.mk k n t ns ks) = none) := box (by rw [hjf0.out, hJ.out]; exact jFieldL_out (.inr (by rw [hnk.out]; omega)))
          replace hs := box hs
          go_wp2_with (first | (with_reducible refine lst (by with_unfolding_all rfl) (wp_fld1 hF Tryd.underlying24 rfl (by with_unfolding_all exact ⟨_, rfl, rfl⟩) rfl ?_)) | (with_reducible refine lst (by with_unfolding_all rfl) (wp_fld1 hF Tryd.underlying3 rfl (by with_unfolding_all exact ⟨_, rfl, rfl⟩) rfl ?_)) | (with_reducible refine lst (by with_unfolding_all rfl) (wp_fld1 hF Tryd.underlying31 rfl (by with_unfolding_all exact ⟨_, rfl, rfl⟩) rfl ?_)) | (with_reducible refine lst (by with_unfolding_all rfl) (wp_fbuild Tryd.underlying33 (z := .agg (List.toArray vl0)) (by kernel_rfl) (pl := vlP) (by kernel_rfl) (cs := vl0) rfl (vs := []) (by with_unfolding_all rfl) (by with_unfolding_all rfl) ?_)) | ((with_reducible refine lst (by with_unfolding_all rfl) (wp_fstA0 hF (by with_unfolding_all exact ⟨_, _, rfl, rfl, rfl⟩) (by rw [vlL_len]; kernel_rfl) vlL_one vlL_fit vlL_spl ?_)); intro w9 hF9 hz9))
          exact bodyPost_ret (results_cellF2 rfl _ hF9 (i := 0) rfl rfl Tryd.underlying33 rfl (by rw [vlL_len]; kernel_rfl)) rfl (by
            unfold FieldPost
            rw [hjf.out]
            exact ⟨_, rfl, null_rd _ _, hF9.below⟩)
      · have hjf : Box (jField nm (.mk k n t ns ks) = none) := box (by rw [hjf0.out, hJ.out]; exact jFieldL_out (.inl (by rw [hnn.out]; omega)))
        go_wp2_with (first | (with_reducible refine lst (by with_unfolding_all rfl) (wp_fld1 hF Tryd.underlying24 rfl (by with_unfolding_all exact ⟨_, rfl, rfl⟩) rfl ?_)) | (with_reducible refine lst (by with_unfolding_all rfl) (wp_fld1 hF Tryd.underlying31 rfl (by with_unfolding_all exact ⟨_, rfl, rfl⟩) rfl ?_)) | (with_reducible refine lst (by with_unfolding_all rfl) (wp_fbuild Tryd.underlying33 (z := .agg (List.toArray vl0)) (by kernel_rfl) (pl := vlP) (by kernel_rfl) (cs := vl0) rfl (vs := []) (by with_unfolding_all rfl) (by with_unfolding_all rfl) ?_)) | ((with_reducible refine lst (by with_unfolding_all rfl) (wp_fstA0 hF (by with_unfolding_all exact ⟨_, _, rfl, rfl, rfl⟩) (by rw [vlL_len]; kernel_rfl) vlL_one vlL_fit vlL_spl ?_)); intro w9 hF9 hz9))
        exact bodyPost_ret (results_cellF2 rfl _ hF9 (i := 0) rfl rfl Tryd.underlying33 rfl (by rw [vlL_len]; kernel_rfl)) rfl (by
          unfold FieldPost
          rw [hjf.out]
          exact ⟨_, rfl, null_rd _ _, hF9.below⟩)
  · have d6 : (k == 6) = false := by rw [beq_eq_false_iff_ne]; exact hk6
    have hjf : Box (jField nm (.mk k n t ns ks) = none) := box (by rw [jField, if_neg hk6])
    replace hk6 := box hk6
    go_enter Tryd.func20, Tryd.ntmps20
    go_wp2_with (first | ((with_reducible refine lst (by with_unfolding_all rfl) (wp_fbox hF0 (cs := (vlL k n ⟨t.toArray⟩ (.slice An nn cn) (.slice Ak nk ck))) rfl (by with_unfolding_all rfl) (by with_unfolding_all rfl) ?_)); intro w1 g1 hF1 hz1) | ((with_reducible refine lst (by with_unfolding_all rfl) (wp_falloc hF1 (cs := vl0) (z := .agg (List.toArray (vl0))) rfl (by kernel_rfl) (by with_unfolding_all rfl) ?_)); intro w2 g2 hF2 hz2))
    go_loopg [6] nn (fun gk s wr => s = .int .i64 0 ∧ wr = w2)
    case atStart => exact ⟨rfl, rfl⟩
    case round =>
      obtain ⟨rfl, rfl⟩ := hrel
      by_cases hlt : 0 < nn
      · by_cases hik : 0 < nk
        · go_wp2_with (first | (with_reducible refine lst (by with_unfolding_all rfl) (wp_fld1 hF2 Tryd.underlying24 rfl (by with_unfolding_all exact ⟨_, rfl, rfl⟩) rfl ?_)) | (with_reducible refine lst (by with_unfolding_all rfl) (wp_fld1 hF2 Tryd.underlying3 rfl (by with_unfolding_all exact ⟨_, rfl, rfl⟩) rfl ?_)) | (with_reducible refine lst (by with_unfolding_all rfl) (wp_fld1 hF2 Tryd.underlying31 rfl (by with_unfolding_all exact ⟨_, rfl, rfl⟩) rfl ?_)) | (with_reducible refine lst (by with_unfolding_all rfl) (wp_fbuild Tryd.underlying33 (z := .agg (List.toArray vl0)) (by kernel_rfl) (pl := vlP) (by kernel_rfl) (cs := vl0) rfl (vs := []) (by with_unfolding_all rfl) (by with_unfolding_all rfl) ?_)) | ((with_reducible refine lst (by with_unfolding_all rfl) (wp_fstA0 hF2 (by with_unfolding_all exact ⟨_, _, rfl, rfl, rfl⟩) (by rw [vlL_len]; kernel_rfl) vlL_one vlL_fit vlL_spl ?_)); intro w9 hF9 hz9))
          exact bodyPost_ret (results_cellF2 rfl _ hF9 (i := 0) rfl rfl Tryd.underlying33 rfl (by rw [vlL_len]; kernel_rfl)) rfl (by
            unfold FieldPost
            rw [hjf.out]
            exact ⟨_, rfl, null_rd _ _, hF9.below⟩)
        · go_wp2_with (first | (with_reducible refine lst (by with_unfolding_all rfl) (wp_fld1 hF2 Tryd.underlying24 rfl (by with_unfolding_all exact ⟨_, rfl, rfl⟩) rfl ?_)) | (with_reducible refine lst (by with_unfolding_all rfl) (wp_fld1 hF2 Tryd.underlying3 rfl (by with_unfolding_all exact ⟨_, rfl, rfl⟩) rfl ?_)) | (with_reducible refine lst (by with_unfolding_all rfl) (wp_fld1 hF2 Tryd.underlying31 rfl (by with_unfolding_all exact ⟨_, rfl, rfl⟩) rfl ?_)) | (with_reducible refine lst (by with_unfolding_all rfl) (wp_fbuild Tryd.underlying33 (z := .agg (List.toArray vl0)) (by kernel_rfl) (pl := vlP) (by kernel_rfl) (cs := vl0) rfl (vs := []) (by with_unfolding_all rfl) (by with_unfolding_all rfl) ?_)) | ((with_reducible refine lst (by with_unfolding_all rfl) (wp_fstA0 hF2 (by with_unfolding_all exact ⟨_, _, rfl, rfl, rfl⟩) (by rw [vlL_len]; kernel_rfl) vlL_one vlL_fit vlL_spl ?_)); intro w9 hF9 hz9))
          exact bodyPost_ret (results_cellF2 rfl _ hF9 (i := 0) rfl rfl Tryd.underlying33 rfl (by rw [vlL_len]; kernel_rfl)) rfl (by
            unfold FieldPost
            rw [hjf.out]
            exact ⟨_, rfl, null_rd _ _, hF9.below⟩)
      · go_wp2_with (first | (with_reducible refine lst (by with_unfolding_all rfl) (wp_fld1 hF2 Tryd.underlying24 rfl (by with_unfolding_all exact ⟨_, rfl, rfl⟩) rfl ?_)) | (with_reducible refine lst (by with_unfolding_all rfl) (wp_fld1 hF2 Tryd.underlying3 rfl (by with_unfolding_all exact ⟨_, rfl, rfl⟩) rfl ?_)) | (with_reducible refine lst (by with_unfolding_all rfl) (wp_fld1 hF2 Tryd.underlying31 rfl (by with_unfolding_all exact ⟨_, rfl, rfl⟩) rfl ?_)) | (with_reducible refine lst (by with_unfolding_all rfl) (wp_fbuild Tryd.underlying33 (z := .agg (List.toArray vl0)) (by kernel_rfl) (pl := vlP) (by kernel_rfl) (cs := vl0) rfl (vs := []) (by with_unfolding_all rfl) (by with_unfolding_all rfl) ?_)) | ((with_reducible refine lst (by with_unfolding_all rfl) (wp_fstA0 hF2 (by with_unfolding_all exact ⟨_, _, rfl, rfl, rfl⟩) (by rw [vlL_len]; kernel_rfl) vlL_one vlL_fit vlL_spl ?_)); intro w9 hF9 hz9))
        exact bodyPost_ret (results_cellF2 rfl _ hF9 (i := 0) rfl rfl Tryd.underlying33 rfl (by rw [vlL_len]; kernel_rfl)) rfl (by
          unfold FieldPost
          rw [hjf.out]
          exact ⟨_, rfl, null_rd _ _, hF9.below⟩)

end Go.Proofs.YtdekogmegdhjoaaDoor

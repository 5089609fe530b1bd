/-
  Layer 6, plain law: what is kept of a value that is cut. No program is named here.
  Layer 6: the program's Field and the document's, walked.
  Layer 6: the walk of the program's Write.
  Layer 6: the program's Write within a frame; what is known of a value that was read.
  Layer 6: the law JsonFields, walked.
  Layer 6 in plain words: lists and objects in one another; a list of many values.
-/
import Derived.Test.YtdekogmegdhjoaaDoorM16
import Derived.Test.YtdekogmegdhjoaaDoorM04
import Derived.Test.YtdekogmegdhjoaaDoorM15
import Derived.Test.YtdekogmegdhjoaaDoorM07
namespace Go.Proofs.YtdekogmegdhjoaaDoor

theorem jWL_cut {f : JV → Nat → JV × Nat} (hf : ∀ v m, jW (f v m).1 ≤ jW v) : ∀ (ks : List JV) (m : Nat), jWL (jCutL f ks m).1 ≤ jWL ks
  | [], m => Nat.le_refl _
  | v :: vs, 0 => by rw [jCutL, jWL]; omega
  | v :: vs, m + 1 => by
    rw [jCutL]
    have h1 := jWL_cut hf vs (f v m).2
    have h2 := hf v m
    simp only [jWL]
    omega
theorem jW_cut : ∀ (d : Nat) (v : JV) (m : Nat), jW (jCutN d v m).1 ≤ jW v
  | 0, .mk k n t ns ks, m => by rw [jCutN]; simp only [jW, jWL]; omega
  | d + 1, .mk k n t ns ks, m => by
    rw [jCutN]
    have := jWL_cut (jW_cut d) ks m
    simp only [jW]
    omega
theorem JIL_cut {f : JV → Nat → JV × Nat} (hf : ∀ v m, JI v → JI (f v m).1) : ∀ (ks : List JV) (m : Nat), JIL ks → JIL (jCutL f ks m).1
  | [], m, _ => by rw [jCutL, JIL]; trivial
  | v :: vs, 0, _ => by rw [jCutL, JIL]; trivial
  | v :: vs, m + 1, h => by
    rw [jCutL]
    rw [JIL] at h
    simp only [JIL]
    exact ⟨hf v m h.1, JIL_cut hf vs _ h.2⟩
theorem JI_cut : ∀ (d : Nat) (v : JV) (m : Nat), JI v → JI (jCutN d v m).1
  | 0, .mk k n t ns ks, m, h => by rw [jCutN]; rw [JI] at h; simp only [JI, JIL]; exact ⟨h.1, h.2.1, trivial⟩
  | d + 1, .mk k n t ns ks, m, h => by
    rw [jCutN]
    rw [JI] at h
    simp only [JI]
    exact ⟨h.1, h.2.1, JIL_cut (JI_cut d) ks m h.2.2⟩
/-- A value that is no deeper. -/
def JDep : Nat → JV → Prop
  | 0, .mk _ _ _ _ ks => ks = []
  | d + 1, .mk _ _ _ _ ks => ∀ v ∈ ks, JDep d v
theorem jCut_dep : ∀ {d D : Nat} {v : JV}, d ≤ D → JDep d v → jCut D v = v
  | 0, D, .mk k n t ns ks, _, h => by
    rw [JDep] at h
    subst h
    cases D <;> rw [jCut] <;> rfl
  | d + 1, 0, v, hD, _ => by omega
  | d + 1, D + 1, .mk k n t ns ks, hD, h => by
    rw [JDep] at h
    rw [jCut]
    congr 1
    have : ∀ v ∈ ks, jCut D v = v := fun v hv => jCut_dep (by omega) (h v hv)
    calc ks.map (jCut D) = ks.map id := List.map_congr_left this
      _ = ks := List.map_id _
theorem jCutL_mem {f : JV → Nat → JV × Nat} {Q : JV → Prop} (hf : ∀ v m, Q (f v m).1) : ∀ (ks : List JV) (m : Nat), ∀ v ∈ (jCutL f ks m).1, Q v
  | [], m, v, h => by cases h
  | _ :: _, 0, v, h => by cases h
  | x :: vs, m + 1, v, h => by
    rw [jCutL] at h
    rcases List.mem_cons.1 h with rfl | h
    · exact hf x m
    · exact jCutL_mem hf vs _ v h
theorem jCutN_dep : ∀ (d : Nat) (v : JV) (m : Nat), JDep d (jCutN d v m).1
  | 0, .mk k n t ns ks, m => by rw [jCutN, JDep]
  | d + 1, .mk k n t ns ks, m => by
    rw [jCutN, JDep]
    exact jCutL_mem (jCutN_dep d) ks m
theorem jCut_cut {d D : Nat} (h : d ≤ D) (v : JV) (m : Nat) : jCut D (jCutN d v m).1 = (jCutN d v m).1 := jCut_dep h (jCutN_dep d v m)
theorem JDep.up : ∀ {d : Nat} {v : JV}, JDep d v → JDep (d + 1) v
  | 0, .mk k n t ns ks, h => by rw [JDep] at h; subst h; rw [JDep]; intro v hv; cases hv
  | d + 1, .mk k n t ns ks, h => by
    rw [JDep] at h
    rw [JDep]
    exact fun v hv => (h v hv).up
theorem jFieldL_dep {nm : List UInt8} {Q : JV → Prop} : ∀ (ns : List (List UInt8)) (ks : List JV) (v : JV), jFieldL nm ns ks = some v → (∀ v ∈ ks, Q v) → Q v
  | [], ks, v, h, _ => by cases ks <;> cases h
  | _ :: _, [], v, h, _ => by cases h
  | s :: ns, x :: ks, v, h, hq => by
    rw [jFieldL] at h
    split at h
    · injection h with h; subst h; exact hq _ (by simp)
    · exact jFieldL_dep ns ks v h (fun v hv => hq v (by simp [hv]))
theorem JSmL_mem {ks : List JV} (h : JSmL ks) : ∀ v ∈ ks, JSm v := fun v hv => by
  obtain ⟨i, hi⟩ := List.mem_iff_getElem?.1 hv
  exact h.at hi
/-- A member is no deeper than its object. -/
theorem field_dep {nm : List UInt8} {d : Nat} {v : JV} (h : JDep d v) : JDep d ((jField nm v).getD .null) := by
  obtain ⟨k, n, t, ns, ks⟩ := v
  cases hj : jField nm (.mk k n t ns ks) with
  | none => cases d <;> (unfold JV.null; simp [JDep])
  | some x =>
    rw [jField] at hj
    split at hj
    · cases d with
      | zero => rw [JDep] at h; subst h; cases ns <;> cases hj
      | succ d => rw [JDep] at h; exact (jFieldL_dep ns ks x hj h).up
    · cases hj
theorem field_sm {nm : List UInt8} {v : JV} (h : JSm v) : JSm ((jField nm v).getD .null) := by
  obtain ⟨k, n, t, ns, ks⟩ := v
  cases hj : jField nm (.mk k n t ns ks) with
  | none => unfold JV.null; simp [JSm, JSmL]
  | some x =>
    rw [jField] at hj
    rw [JSm] at h
    split at hj
    · exact jFieldL_dep ns ks x hj (JSmL_mem h.2.2)
    · cases hj
end Go.Proofs.YtdekogmegdhjoaaDoor

namespace Go.Proofs.YtdekogmegdhjoaaDoor
open Go.RowKit
set_option linter.unusedSimpArgs false


set_option maxRecDepth 20000 in
set_option maxHeartbeats 6400000 in
theorem field_any (v : JV) (cs : List Value) (nm : List UInt8) (w : World) (B : Nat) (hB : B ≤ w.heap.size) (hv : VRd w (· < B) v cs) (hsm : JSm v) :
    Calls Tryd.prog 19 #[.agg cs.toArray, .string ⟨nm.toArray⟩] w (FieldPost w B nm v) := by
  obtain ⟨k, n, t, ns, ks⟩ := v
  rw [VRd] at hv
  obtain ⟨An, nn, cn, Ak, nk, ck, xk, hcn, hck, rfl, hrn, hrk, hvk⟩ := hv
  rw [JSm] at hsm
  obtain ⟨hs1, hs2, hs3⟩ := hsm
  have hnn : ns.length = nn := by have := hrn.len; simpa using this
  have hnk : ks.length = nk := by have := hrk.len; rw [hvk.len] at this; omega
  rw [hnn] at hs1
  rw [hnk] at hs2
  replace hnn := box hnn
  replace hnk := box hnk
  replace hvk := box hvk
  have hF0 := Fr.nil w
  by_cases hk6 : k = 6
  · have d6 : (k != 6) = false := by rw [bne_eq_false_iff_eq]; exact hk6
    have hjf0 : Box (jField nm (.mk k n t ns ks) = jFieldL nm ns ks) := box (by rw [jField, if_pos hk6])
    replace hk6 := box hk6
    go_enter Tryd.func19, Tryd.ntmps19
    go_wp2_with (first | ((with_reducible refine lst (by with_unfolding_all rfl) (wp_fbox hF0 (cs := (vlL k n ⟨t.toArray⟩ (.slice An nn cn) (.slice Ak nk ck))) rfl (by with_unfolding_all rfl) (by with_unfolding_all rfl) ?_)); intro w1 g1 hF1 hz1) | ((with_reducible refine lst (by with_unfolding_all rfl) (wp_falloc hF1 (cs := vl0) (z := .agg (List.toArray (vl0))) rfl (by kernel_rfl) (by with_unfolding_all rfl) ?_)); intro w2 g2 hF2 hz2) | (with_reducible refine lst (by with_unfolding_all rfl) (wp_fld1 hF2 Tryd.underlying3 rfl (by with_unfolding_all exact ⟨_, rfl, rfl⟩) rfl ?_)) | (with_reducible refine lst (by with_unfolding_all rfl) (wp_fld1 hF2 Tryd.underlying24 rfl (by with_unfolding_all exact ⟨_, rfl, rfl⟩) rfl ?_)))
    clear hF0 hF1
    go_loopg [15] nn (fun gk s wr => ∃ i : Nat, i ≤ nn ∧ Box (gk = nn - i) ∧ s = .int .i64 (i : Int) ∧ Box (jFieldL nm ns ks = jFieldL nm (ns.drop i) (ks.drop i)) ∧ Fr [] w wr [.blk g2 27 vl0, .blk g1 27 (vlL k n ⟨t.toArray⟩ (.slice An nn cn) (.slice Ak nk ck))])
    case atStart => exact ⟨0, by omega, box rfl, rfl, box (by simp), hF2⟩
    case round =>
      clear hF2
      obtain ⟨i, hi, hk, rfl, hJ, hF⟩ := hrel
      have hrn' := hrn.below (hF.below.mono hB)
      have hrk' := hrk.below (hF.below.mono hB)
      by_cases hlt : i < nn
      · obtain ⟨s, hs⟩ : ∃ s, ns[i]? = some s := ⟨ns[i]'(by rw [hnn.out]; exact hlt), by simp⟩
        have hss : Box ((ns.map strv)[i]? = some (.string ⟨s.toArray⟩)) := box (by rw [List.getElem?_map, hs]; rfl)
        by_cases hik : i < nk
        · by_cases hst : s = nm
          · subst hst
            obtain ⟨vi, hvi⟩ : ∃ vi, ks[i]? = some vi := ⟨ks[i]'(by rw [hnk.out]; exact hik), by simp⟩
            obtain ⟨ci, hci, hvri⟩ := hvk.out.at hvi
            have hcil := box hvri.len
            have hcio := box hvri.one
            replace hci := box hci
            replace hvri := box hvri
            have hjf : Box (jField s (.mk k n t ns ks) = some vi) := box (by rw [hjf0.out, hJ.out]; exact jFieldL_here hs hvi)
            replace hs := box hs
            replace hvi := box hvi
            go_wp2_with (first | (with_reducible refine lst (by with_unfolding_all rfl) (wp_fld1 hF Tryd.underlying24 rfl (by with_unfolding_all exact ⟨_, rfl, rfl⟩) rfl ?_)) | (with_reducible refine lst (by with_unfolding_all rfl) (wp_fld1 hF Tryd.underlying3 rfl (by with_unfolding_all exact ⟨_, rfl, rfl⟩) rfl ?_)) | (with_reducible refine lst (by with_unfolding_all rfl) (wp_fld1 hF Tryd.underlying25 rfl (by with_unfolding_all exact ⟨_, rfl, rfl⟩) rfl ?_)) | (with_reducible refine lst (by with_unfolding_all rfl) (wp_indexAddr T_strs hrn' (by with_unfolding_all exact ⟨_, _, _, _, rfl, rfl, rfl⟩) (by omega) (by omega) ?_)) | (with_reducible refine lst (by with_unfolding_all rfl) (wp_load1C hrn' hss Tryd.underlying9 rfl (by with_unfolding_all exact ⟨_, rfl, rfl⟩) (by first | (simp; done) | (simp; omega) | omega) ?_)) | (with_reducible refine lst (by with_unfolding_all rfl) (wp_indexAddr T_vals hrk' (by with_unfolding_all exact ⟨_, _, _, _, rfl, rfl, rfl⟩) (by omega) (by omega) ?_)) | (with_reducible refine lst (by with_unfolding_all rfl) (wp_loadA hrk' Tryd.underlying27 rfl (by with_unfolding_all exact ⟨_, rfl, rfl⟩) (ds := ci) (by rw [hcil.out]; kernel_rfl) (by rw [hcil.out]; with_unfolding_all exact hci.out) ?_)) | ((with_reducible refine lst (by with_unfolding_all rfl) (wp_fstA0 hF (by with_unfolding_all exact ⟨_, _, rfl, rfl, rfl⟩) (by rw [hcil.out]; kernel_rfl) hcio.out (by rw [hcil.out, vlL_len]; decide) (spl_all (by rw [hcil.out, vlL_len])) ?_)); intro w9 hF9 hz9))
            exact bodyPost_ret (results_cellF2 rfl _ hF9 (i := 0) rfl rfl Tryd.underlying27 rfl (by rw [hcil.out]; kernel_rfl)) rfl (by
              unfold FieldPost
              rw [hjf.out]
              exact ⟨_, rfl, hvri.out, hF9.below⟩)
          · have hst2 : (s == nm) = false := by rw [beq_eq_false_iff_ne]; exact hst
            have hJ2 : Box (jFieldL nm ns ks = jFieldL nm (ns.drop (i + 1)) (ks.drop (i + 1))) := box (hJ.out.trans (jFieldL_next hs (.inl hst)))
            replace hst := box hst
            replace hs := box hs
            go_wp2_with (first | (with_reducible refine lst (by with_unfolding_all rfl) (wp_fld1 hF Tryd.underlying24 rfl (by with_unfolding_all exact ⟨_, rfl, rfl⟩) rfl ?_)) | (with_reducible refine lst (by with_unfolding_all rfl) (wp_fld1 hF Tryd.underlying3 rfl (by with_unfolding_all exact ⟨_, rfl, rfl⟩) rfl ?_)) | (with_reducible refine lst (by with_unfolding_all rfl) (wp_fld1 hF Tryd.underlying25 rfl (by with_unfolding_all exact ⟨_, rfl, rfl⟩) rfl ?_)) | (with_reducible refine lst (by with_unfolding_all rfl) (wp_indexAddr T_strs hrn' (by with_unfolding_all exact ⟨_, _, _, _, rfl, rfl, rfl⟩) (by omega) (by omega) ?_)) | (with_reducible refine lst (by with_unfolding_all rfl) (wp_load1C hrn' hss Tryd.underlying9 rfl (by with_unfolding_all exact ⟨_, rfl, rfl⟩) (by first | (simp; done) | (simp; omega) | omega) ?_)))
            go_roundg (nn - (i + 1))
            case rel => exact ⟨i + 1, by omega, box rfl, by go_num, hJ2, hF⟩
            case measure => have := hk.out; omega
        · have hJ2 : Box (jFieldL nm ns ks = jFieldL nm (ns.drop (i + 1)) (ks.drop (i + 1))) := box (hJ.out.trans (jFieldL_next hs (.inr (by rw [hnk.out]; omega))))
          replace hs := box hs
          cases hst : (s == nm) with
          | false =>
            go_wp2_with (first | (with_reducible refine lst (by with_unfolding_all rfl) (wp_fld1 hF Tryd.underlying25 rfl (by with_unfolding_all exact ⟨_, rfl, rfl⟩) rfl ?_)) | (with_reducible refine lst (by with_unfolding_all rfl) (wp_indexAddr T_strs hrn' (by with_unfolding_all exact ⟨_, _, _, _, rfl, rfl, rfl⟩) (by omega) (by omega) ?_)) | (with_reducible refine lst (by with_unfolding_all rfl) (wp_load1C hrn' hss Tryd.underlying9 rfl (by with_unfolding_all exact ⟨_, rfl, rfl⟩) (by first | (simp; done) | (simp; omega) | omega) ?_)))
            go_roundg (nn - (i + 1))
            case rel => exact ⟨i + 1, by omega, box rfl, by go_num, hJ2, hF⟩
            case measure => have := hk.out; omega
          | true =>
            go_wp2_with (first | (with_reducible refine lst (by with_unfolding_all rfl) (wp_fld1 hF Tryd.underlying25 rfl (by with_unfolding_all exact ⟨_, rfl, rfl⟩) rfl ?_)) | (with_reducible refine lst (by with_unfolding_all rfl) (wp_indexAddr T_strs hrn' (by with_unfolding_all exact ⟨_, _, _, _, rfl, rfl, rfl⟩) (by omega) (by omega) ?_)) | (with_reducible refine lst (by with_unfolding_all rfl) (wp_load1C hrn' hss Tryd.underlying9 rfl (by with_unfolding_all exact ⟨_, rfl, rfl⟩) (by first | (simp; done) | (simp; omega) | omega) ?_)))
            go_roundg (nn - (i + 1))
            case rel => exact ⟨i + 1, by omega, box rfl, by go_num, hJ2, hF⟩
            case measure => have := hk.out; omega
      · have hjf : Box (jField nm (.mk k n t ns ks) = none) := box (by rw [hjf0.out, hJ.out]; exact jFieldL_out (.inl (by rw [hnn.out]; omega)))
        go_wp2_with (first | (with_reducible refine lst (by with_unfolding_all rfl) (wp_fld1 hF Tryd.underlying24 rfl (by with_unfolding_all exact ⟨_, rfl, rfl⟩) rfl ?_)) | (with_reducible refine lst (by with_unfolding_all rfl) (wp_fld1 hF Tryd.underlying25 rfl (by with_unfolding_all exact ⟨_, rfl, rfl⟩) rfl ?_)) | (with_reducible refine lst (by with_unfolding_all rfl) (wp_fbuild Tryd.underlying27 (z := .agg (List.toArray vl0)) (by kernel_rfl) (pl := vlP) (by kernel_rfl) (cs := vl0) rfl (vs := []) (by with_unfolding_all rfl) (by with_unfolding_all rfl) ?_)) | ((with_reducible refine lst (by with_unfolding_all rfl) (wp_fstA0 hF (by with_unfolding_all exact ⟨_, _, rfl, rfl, rfl⟩) (by rw [vlL_len]; kernel_rfl) vlL_one vlL_fit vlL_spl ?_)); intro w9 hF9 hz9))
        exact bodyPost_ret (results_cellF2 rfl _ hF9 (i := 0) rfl rfl Tryd.underlying27 rfl (by rw [vlL_len]; kernel_rfl)) rfl (by
          unfold FieldPost
          rw [hjf.out]
          exact ⟨_, rfl, null_rd _ _, hF9.below⟩)
  · have d6 : (k != 6) = true := by rw [bne_iff_ne]; exact hk6
    have hjf : Box (jField nm (.mk k n t ns ks) = none) := box (by rw [jField, if_neg hk6])
    replace hk6 := box hk6
    go_enter Tryd.func19, Tryd.ntmps19
    go_wp2_with (first | ((with_reducible refine lst (by with_unfolding_all rfl) (wp_fbox hF0 (cs := (vlL k n ⟨t.toArray⟩ (.slice An nn cn) (.slice Ak nk ck))) rfl (by with_unfolding_all rfl) (by with_unfolding_all rfl) ?_)); intro w1 g1 hF1 hz1) | ((with_reducible refine lst (by with_unfolding_all rfl) (wp_falloc hF1 (cs := vl0) (z := .agg (List.toArray (vl0))) rfl (by kernel_rfl) (by with_unfolding_all rfl) ?_)); intro w2 g2 hF2 hz2) | (with_reducible refine lst (by with_unfolding_all rfl) (wp_fld1 hF2 Tryd.underlying3 rfl (by with_unfolding_all exact ⟨_, rfl, rfl⟩) rfl ?_)) | (with_reducible refine lst (by with_unfolding_all rfl) (wp_fbuild Tryd.underlying27 (z := .agg (List.toArray vl0)) (by kernel_rfl) (pl := vlP) (by kernel_rfl) (cs := vl0) rfl (vs := []) (by with_unfolding_all rfl) (by with_unfolding_all rfl) ?_)) | ((with_reducible refine lst (by with_unfolding_all rfl) (wp_fstA0 hF2 (by with_unfolding_all exact ⟨_, _, rfl, rfl, rfl⟩) (by rw [vlL_len]; kernel_rfl) vlL_one vlL_fit vlL_spl ?_)); intro w9 hF9 hz9))
    exact bodyPost_ret (results_cellF2 rfl _ hF9 (i := 0) rfl rfl Tryd.underlying27 rfl (by rw [vlL_len]; kernel_rfl)) rfl (by
      unfold FieldPost
      rw [hjf.out]
      exact ⟨_, rfl, null_rd _ _, hF9.below⟩)

set_option maxRecDepth 20000 in
set_option maxHeartbeats 6400000 in
theorem rfield_any (v : JV) (cs : List Value) (nm : List UInt8) (w : World) (B : Nat) (hB : B ≤ w.heap.size) (hv : VRd w (· < B) v cs) (hsm : JSm v) :
    Calls Tryd.prog 20 #[.agg cs.toArray, .string ⟨nm.toArray⟩] w (FieldPost w B nm v) := by
  obtain ⟨k, n, t, ns, ks⟩ := v
  rw [VRd] at hv
  obtain ⟨An, nn, cn, Ak, nk, ck, xk, hcn, hck, rfl, hrn, hrk, hvk⟩ := hv
  rw [JSm] at hsm
  obtain ⟨hs1, hs2, hs3⟩ := hsm
  have hnn : ns.length = nn := by have := hrn.len; simpa using this
  have hnk : ks.length = nk := by have := hrk.len; rw [hvk.len] at this; omega
  rw [hnn] at hs1
  rw [hnk] at hs2
  replace hnn := box hnn
  replace hnk := box hnk
  replace hvk := box hvk
  have hF0 := Fr.nil w
  by_cases hk6 : k = 6
  · have d6 : (k == 6) = true := by rw [beq_iff_eq]; exact hk6
    have hjf0 : Box (jField nm (.mk k n t ns ks) = jFieldL nm ns ks) := box (by rw [jField, if_pos hk6])
    replace hk6 := box hk6
    go_enter Tryd.func20, Tryd.ntmps20
    go_wp2_with (first | ((with_reducible refine lst (by with_unfolding_all rfl) (wp_fbox hF0 (cs := (vlL k n ⟨t.toArray⟩ (.slice An nn cn) (.slice Ak nk ck))) rfl (by with_unfolding_all rfl) (by with_unfolding_all rfl) ?_)); intro w1 g1 hF1 hz1) | ((with_reducible refine lst (by with_unfolding_all rfl) (wp_falloc hF1 (cs := vl0) (z := .agg (List.toArray (vl0))) rfl (by kernel_rfl) (by with_unfolding_all rfl) ?_)); intro w2 g2 hF2 hz2))
    clear hF0 hF1
    go_loopg [6] nn (fun gk s wr => ∃ i : Nat, i ≤ nn ∧ Box (gk = nn - i) ∧ s = .int .i64 (i : Int) ∧ Box (jFieldL nm ns ks = jFieldL nm (ns.drop i) (ks.drop i)) ∧ Fr [] w wr [.blk g2 33 vl0, .blk g1 33 (vlL k n ⟨t.toArray⟩ (.slice An nn cn) (.slice Ak nk ck))])
    case atStart => exact ⟨0, by omega, box rfl, rfl, box (by simp), hF2⟩
    case round =>
      clear hF2
      obtain ⟨i, hi, hk, rfl, hJ, hF⟩ := hrel
      have hrn' := hrn.below (hF.below.mono hB)
      have hrk' := hrk.below (hF.below.mono hB)
      by_cases hlt : i < nn
      · obtain ⟨s, hs⟩ : ∃ s, ns[i]? = some s := ⟨ns[i]'(by rw [hnn.out]; exact hlt), by simp⟩
        have hss : Box ((ns.map strv)[i]? = some (.string ⟨s.toArray⟩)) := box (by rw [List.getElem?_map, hs]; rfl)
        by_cases hik : i < nk
        · by_cases hst : s = nm
          · subst hst
            obtain ⟨vi, hvi⟩ : ∃ vi, ks[i]? = some vi := ⟨ks[i]'(by rw [hnk.out]; exact hik), by simp⟩
            obtain ⟨ci, hci, hvri⟩ := hvk.out.at hvi
            have hcil := box hvri.len
            have hcio := box hvri.one
            replace hci := box hci
            replace hvri := box hvri
            have hjf : Box (jField s (.mk k n t ns ks) = some vi) := box (by rw [hjf0.out, hJ.out]; exact jFieldL_here hs hvi)
            replace hs := box hs
            replace hvi := box hvi
            go_wp2_with (first | (with_reducible refine lst (by with_unfolding_all rfl) (wp_fld1 hF Tryd.underlying24 rfl (by with_unfolding_all exact ⟨_, rfl, rfl⟩) rfl ?_)) | (with_reducible refine lst (by with_unfolding_all rfl) (wp_fld1 hF Tryd.underlying3 rfl (by with_unfolding_all exact ⟨_, rfl, rfl⟩) rfl ?_)) | (with_reducible refine lst (by with_unfolding_all rfl) (wp_fld1 hF Tryd.underlying31 rfl (by with_unfolding_all exact ⟨_, rfl, rfl⟩) rfl ?_)) | (with_reducible refine lst (by with_unfolding_all rfl) (wp_indexAddr T_strs hrn' (by with_unfolding_all exact ⟨_, _, _, _, rfl, rfl, rfl⟩) (by omega) (by omega) ?_)) | (with_reducible refine lst (by with_unfolding_all rfl) (wp_load1C hrn' hss Tryd.underlying9 rfl (by with_unfolding_all exact ⟨_, rfl, rfl⟩) (by first | (simp; done) | (simp; omega) | omega) ?_)) | (with_reducible refine lst (by with_unfolding_all rfl) (wp_indexAddr T_rvals hrk' (by with_unfolding_all exact ⟨_, _, _, _, rfl, rfl, rfl⟩) (by omega) (by omega) ?_)) | (with_reducible refine lst (by with_unfolding_all rfl) (wp_loadA hrk' Tryd.underlying33 rfl (by with_unfolding_all exact ⟨_, rfl, rfl⟩) (ds := ci) (by rw [hcil.out]; kernel_rfl) (by rw [hcil.out]; with_unfolding_all exact hci.out) ?_)) | ((with_reducible refine lst (by with_unfolding_all rfl) (wp_fstA0 hF (by with_unfolding_all exact ⟨_, _, rfl, rfl, rfl⟩) (by rw [hcil.out]; kernel_rfl) hcio.out (by rw [hcil.out, vlL_len]; decide) (spl_all (by rw [hcil.out, vlL_len])) ?_)); intro w9 hF9 hz9))
            exact bodyPost_ret (results_cellF2 rfl _ hF9 (i := 0) rfl rfl Tryd.underlying33 rfl (by rw [hcil.out]; kernel_rfl)) rfl (by
              unfold FieldPost
              rw [hjf.out]
              exact ⟨_, rfl, hvri.out, hF9.below⟩)
          · have hst2 : (s == nm) = false := by rw [beq_eq_false_iff_ne]; exact hst
            have hJ2 : Box (jFieldL nm ns ks = jFieldL nm (ns.drop (i + 1)) (ks.drop (i + 1))) := box (hJ.out.trans (jFieldL_next hs (.inl hst)))
            replace hst := box hst
            replace hs := box hs
            go_wp2_with (first | (with_reducible refine lst (by with_unfolding_all rfl) (wp_fld1 hF Tryd.underlying24 rfl (by with_unfolding_all exact ⟨_, rfl, rfl⟩) rfl ?_)) | (with_reducible refine lst (by with_unfolding_all rfl) (wp_fld1 hF Tryd.underlying3 rfl (by with_unfolding_all exact ⟨_, rfl, rfl⟩) rfl ?_)) | (with_reducible refine lst (by with_unfolding_all rfl) (wp_fld1 hF Tryd.underlying31 rfl (by with_unfolding_all exact ⟨_, rfl, rfl⟩) rfl ?_)) | (with_reducible refine lst (by with_unfolding_all rfl) (wp_indexAddr T_strs hrn' (by with_unfolding_all exact ⟨_, _, _, _, rfl, rfl, rfl⟩) (by omega) (by omega) ?_)) | (with_reducible refine lst (by with_unfolding_all rfl) (wp_load1C hrn' hss Tryd.underlying9 rfl (by with_unfolding_all exact ⟨_, rfl, rfl⟩) (by first | (simp; done) | (simp; omega) | omega) ?_)))
            go_roundg (nn - (i + 1))
            case rel => exact ⟨i + 1, by omega, box rfl, by go_num, hJ2, hF⟩
            case measure => have := hk.out; omega
        · have hjf : Box (jField nm (.mk k n t ns ks) = none) := box (by rw [hjf0.out, hJ.out]; exact jFieldL_out (.inr (by rw [hnk.out]; omega)))
          replace hs := box hs
          go_wp2_with (first | (with_reducible refine lst (by with_unfolding_all rfl) (wp_fld1 hF Tryd.underlying24 rfl (by with_unfolding_all exact ⟨_, rfl, rfl⟩) rfl ?_)) | (with_reducible refine lst (by with_unfolding_all rfl) (wp_fld1 hF Tryd.underlying3 rfl (by with_unfolding_all exact ⟨_, rfl, rfl⟩) rfl ?_)) | (with_reducible refine lst (by with_unfolding_all rfl) (wp_fld1 hF Tryd.underlying31 rfl (by with_unfolding_all exact ⟨_, rfl, rfl⟩) rfl ?_)) | (with_reducible refine lst (by with_unfolding_all rfl) (wp_fbuild Tryd.underlying33 (z := .agg (List.toArray vl0)) (by kernel_rfl) (pl := vlP) (by kernel_rfl) (cs := vl0) rfl (vs := []) (by with_unfolding_all rfl) (by with_unfolding_all rfl) ?_)) | ((with_reducible refine lst (by with_unfolding_all rfl) (wp_fstA0 hF (by with_unfolding_all exact ⟨_, _, rfl, rfl, rfl⟩) (by rw [vlL_len]; kernel_rfl) vlL_one vlL_fit vlL_spl ?_)); intro w9 hF9 hz9))
          exact bodyPost_ret (results_cellF2 rfl _ hF9 (i := 0) rfl rfl Tryd.underlying33 rfl (by rw [vlL_len]; kernel_rfl)) rfl (by
            unfold FieldPost
            rw [hjf.out]
            exact ⟨_, rfl, null_rd _ _, hF9.below⟩)
      · have hjf : Box (jField nm (.mk k n t ns ks) = none) := box (by rw [hjf0.out, hJ.out]; exact jFieldL_out (.inl (by rw [hnn.out]; omega)))
        go_wp2_with (first | (with_reducible refine lst (by with_unfolding_all rfl) (wp_fld1 hF Tryd.underlying24 rfl (by with_unfolding_all exact ⟨_, rfl, rfl⟩) rfl ?_)) | (with_reducible refine lst (by with_unfolding_all rfl) (wp_fld1 hF Tryd.underlying31 rfl (by with_unfolding_all exact ⟨_, rfl, rfl⟩) rfl ?_)) | (with_reducible refine lst (by with_unfolding_all rfl) (wp_fbuild Tryd.underlying33 (z := .agg (List.toArray vl0)) (by kernel_rfl) (pl := vlP) (by kernel_rfl) (cs := vl0) rfl (vs := []) (by with_unfolding_all rfl) (by with_unfolding_all rfl) ?_)) | ((with_reducible refine lst (by with_unfolding_all rfl) (wp_fstA0 hF (by with_unfolding_all exact ⟨_, _, rfl, rfl, rfl⟩) (by rw [vlL_len]; kernel_rfl) vlL_one vlL_fit vlL_spl ?_)); intro w9 hF9 hz9))
        exact bodyPost_ret (results_cellF2 rfl _ hF9 (i := 0) rfl rfl Tryd.underlying33 rfl (by rw [vlL_len]; kernel_rfl)) rfl (by
          unfold FieldPost
          rw [hjf.out]
          exact ⟨_, rfl, null_rd _ _, hF9.below⟩)
  · have d6 : (k == 6) = false := by rw [beq_eq_false_iff_ne]; exact hk6
    have hjf : Box (jField nm (.mk k n t ns ks) = none) := box (by rw [jField, if_neg hk6])
    replace hk6 := box hk6
    go_enter Tryd.func20, Tryd.ntmps20
    go_wp2_with (first | ((with_reducible refine lst (by with_unfolding_all rfl) (wp_fbox hF0 (cs := (vlL k n ⟨t.toArray⟩ (.slice An nn cn) (.slice Ak nk ck))) rfl (by with_unfolding_all rfl) (by with_unfolding_all rfl) ?_)); intro w1 g1 hF1 hz1) | ((with_reducible refine lst (by with_unfolding_all rfl) (wp_falloc hF1 (cs := vl0) (z := .agg (List.toArray (vl0))) rfl (by kernel_rfl) (by with_unfolding_all rfl) ?_)); intro w2 g2 hF2 hz2))
    go_loopg [6] nn (fun gk s wr => s = .int .i64 0 ∧ wr = w2)
    case atStart => exact ⟨rfl, rfl⟩
    case round =>
      obtain ⟨rfl, rfl⟩ := hrel
      by_cases hlt : 0 < nn
      · by_cases hik : 0 < nk
        · go_wp2_with (first | (with_reducible refine lst (by with_unfolding_all rfl) (wp_fld1 hF2 Tryd.underlying24 rfl (by with_unfolding_all exact ⟨_, rfl, rfl⟩) rfl ?_)) | (with_reducible refine lst (by with_unfolding_all rfl) (wp_fld1 hF2 Tryd.underlying3 rfl (by with_unfolding_all exact ⟨_, rfl, rfl⟩) rfl ?_)) | (with_reducible refine lst (by with_unfolding_all rfl) (wp_fld1 hF2 Tryd.underlying31 rfl (by with_unfolding_all exact ⟨_, rfl, rfl⟩) rfl ?_)) | (with_reducible refine lst (by with_unfolding_all rfl) (wp_fbuild Tryd.underlying33 (z := .agg (List.toArray vl0)) (by kernel_rfl) (pl := vlP) (by kernel_rfl) (cs := vl0) rfl (vs := []) (by with_unfolding_all rfl) (by with_unfolding_all rfl) ?_)) | ((with_reducible refine lst (by with_unfolding_all rfl) (wp_fstA0 hF2 (by with_unfolding_all exact ⟨_, _, rfl, rfl, rfl⟩) (by rw [vlL_len]; kernel_rfl) vlL_one vlL_fit vlL_spl ?_)); intro w9 hF9 hz9))
          exact bodyPost_ret (results_cellF2 rfl _ hF9 (i := 0) rfl rfl Tryd.underlying33 rfl (by rw [vlL_len]; kernel_rfl)) rfl (by
            unfold FieldPost
            rw [hjf.out]
            exact ⟨_, rfl, null_rd _ _, hF9.below⟩)
        · go_wp2_with (first | (with_reducible refine lst (by with_unfolding_all rfl) (wp_fld1 hF2 Tryd.underlying24 rfl (by with_unfolding_all exact ⟨_, rfl, rfl⟩) rfl ?_)) | (with_reducible refine lst (by with_unfolding_all rfl) (wp_fld1 hF2 Tryd.underlying3 rfl (by with_unfolding_all exact ⟨_, rfl, rfl⟩) rfl ?_)) | (with_reducible refine lst (by with_unfolding_all rfl) (wp_fld1 hF2 Tryd.underlying31 rfl (by with_unfolding_all exact ⟨_, rfl, rfl⟩) rfl ?_)) | (with_reducible refine lst (by with_unfolding_all rfl) (wp_fbuild Tryd.underlying33 (z := .agg (List.toArray vl0)) (by kernel_rfl) (pl := vlP) (by kernel_rfl) (cs := vl0) rfl (vs := []) (by with_unfolding_all rfl) (by with_unfolding_all rfl) ?_)) | ((with_reducible refine lst (by with_unfolding_all rfl) (wp_fstA0 hF2 (by with_unfolding_all exact ⟨_, _, rfl, rfl, rfl⟩) (by rw [vlL_len]; kernel_rfl) vlL_one vlL_fit vlL_spl ?_)); intro w9 hF9 hz9))
          exact bodyPost_ret (results_cellF2 rfl _ hF9 (i := 0) rfl rfl Tryd.underlying33 rfl (by rw [vlL_len]; kernel_rfl)) rfl (by
            unfold FieldPost
            rw [hjf.out]
            exact ⟨_, rfl, null_rd _ _, hF9.below⟩)
      · go_wp2_with (first | (with_reducible refine lst (by with_unfolding_all rfl) (wp_fld1 hF2 Tryd.underlying24 rfl (by with_unfolding_all exact ⟨_, rfl, rfl⟩) rfl ?_)) | (with_reducible refine lst (by with_unfolding_all rfl) (wp_fld1 hF2 Tryd.underlying3 rfl (by with_unfolding_all exact ⟨_, rfl, rfl⟩) rfl ?_)) | (with_reducible refine lst (by with_unfolding_all rfl) (wp_fld1 hF2 Tryd.underlying31 rfl (by with_unfolding_all exact ⟨_, rfl, rfl⟩) rfl ?_)) | (with_reducible refine lst (by with_unfolding_all rfl) (wp_fbuild Tryd.underlying33 (z := .agg (List.toArray vl0)) (by kernel_rfl) (pl := vlP) (by kernel_rfl) (cs := vl0) rfl (vs := []) (by with_unfolding_all rfl) (by with_unfolding_all rfl) ?_)) | ((with_reducible refine lst (by with_unfolding_all rfl) (wp_fstA0 hF2 (by with_unfolding_all exact ⟨_, _, rfl, rfl, rfl⟩) (by rw [vlL_len]; kernel_rfl) vlL_one vlL_fit vlL_spl ?_)); intro w9 hF9 hz9))
        exact bodyPost_ret (results_cellF2 rfl _ hF9 (i := 0) rfl rfl Tryd.underlying33 rfl (by rw [vlL_len]; kernel_rfl)) rfl (by
          unfold FieldPost
          rw [hjf.out]
          exact ⟨_, rfl, null_rd _ _, hF9.below⟩)

end Go.Proofs.YtdekogmegdhjoaaDoor

namespace Go.Proofs.YtdekogmegdhjoaaDoor
open Go.RowKit
set_option linter.unusedSimpArgs false

theorem jRightL_ok {f : JV → Nat → Option Nat} (hf : ∀ v m x, f v m = some x → JOk v) {obj : Bool} : ∀ {ks : List JV} {seen ns : List (List UInt8)} {m x : Nat}, jRightL f obj seen ns ks m = some x → JOkL ks
  | [], _, _, _, _, _ => by rw [JOkL]; trivial
  | v :: vs, seen, ns, m, x, h => by
    rw [jRightL] at h
    split at h
    · cases h
    · cases hv : f v m with
      | none => rw [hv] at h; cases h
      | some m' =>
        rw [hv] at h
        rw [JOkL]
        exact ⟨hf _ _ _ hv, jRightL_ok hf h⟩
theorem jRight_ok : ∀ {d : Nat} (v : JV) (m x : Nat), jRight d v m = some x → JOk v
  | 0, .mk k n t ns ks, m, x, h => by
    rw [jRight] at h
    split at h
    · cases h
    · rename_i hb
      unfold jBad at hb
      split at h
      · rw [JOk]; left; omega
      · cases h
  | d + 1, .mk k n t ns ks, m, x, h => by
    rw [jRight] at h
    split at h
    · cases h
    · rename_i hb
      unfold jBad at hb
      split at h
      · rw [JOk]; left; omega
      · split at h
        · cases h
        · rename_i h5 h6
          have hk := jRightL_ok (fun v m x => jRight_ok (d := d) v m x) h
          rw [JOk]
          right
          by_cases hk6 : k = 6
          · right; exact ⟨hk6, Decidable.byContradiction (fun hl => h6 ⟨hk6, hl⟩), hk⟩
          · left; exact ⟨by omega, hk⟩
/-- What Write tells: the text of a value that is right, if it is not too long. -/
def jWrite (v : JV) : List UInt8 × Nat :=
  match jRight 16 v 0 with
  | none => ([], 1)
  | some _ => if 65536 < (jFull v).length then ([], 8) else (jFull v, 0)
def WriteEnd (w : World) (v : JV) (e : Ending) (w' : World) : Prop :=
  ∃ u, e = .returned (.tuple #[u, .int .i64 ((jWrite v).2 : Int)]) ∧ Fr [] w w' [Ent.bytes w.heap.size 5 u (jWrite v).1]

set_option maxRecDepth 20000 in
set_option maxHeartbeats 6400000 in
theorem write_any (v : JV) (cs : List Value) (w : World) (hL : LibsAt w.heap.size w) (hv : VRd w (· < w.heap.size) v cs) (hsm : JSm v) (htx : JTx v) (hfl : 6 * (jFull v).length ≤ 140737480000000) :
    Calls Tryd.prog 21 #[.agg cs.toArray] w (WriteEnd w v) := by
  have hcl := box hv.len
  have hco := box (VRd.one hv)
  have hF0 := Fr.nil w
  go_enter Tryd.func21, Tryd.ntmps21
  go_wp2_with (first | ((with_reducible refine lst (by with_unfolding_all rfl) (wp_fbox hF0 (cs := cs) rfl (by with_unfolding_all rfl) (by with_unfolding_all rfl) ?_)); intro w1 g1 hF1 hz1) | ((with_reducible refine lst (by with_unfolding_all rfl) (wp_falloc hF1 (cs := [(.int .i64 0)]) (z := (.int .i64 0)) rfl (by kernel_rfl) (by with_unfolding_all rfl) ?_)); intro w2 g2 hF2 hz2) | ((with_reducible refine lst (by with_unfolding_all rfl) (wp_fst0 hF2 (by with_unfolding_all exact ⟨_, _, rfl, rfl, rfl⟩) (by kernel_rfl) rfl rfl (by first | decide | (simp; done) | (simp; omega)) (spl1' _ (.int .i64 0)) ?_)); intro w3 hF3 hz3) | (with_reducible refine lst (by with_unfolding_all rfl) (wp_fldA1 hF3 Tryd.underlying27 rfl (by with_unfolding_all exact ⟨_, rfl, rfl⟩) (ds := cs) (by rw [hcl.out]; kernel_rfl) (take_all _) ?_)))
  have hg2 : w.heap.size ≤ g2 := by
    rcases hF3.fresh 0 _ rfl _ rfl with h | h
    · exact h
    · simp at h
  have hb3 := hF3.below
  have hri := right_any 16 0 v cs w3 g2 0 w.heap.size rfl (by omega) (hL.on hb3) (hF3.blk (i := 0) rfl) hg2 hF3.size (hv.onG hb3) hsm htx
  refine hri.mono ?_
  rintro e w4 ⟨m4, rfl, hx4, h4⟩
  have hF4 := hF3.putF (i := 0) rfl h4
  simp only [List.set_cons_zero] at hF4
  clear hri h4 hF0 hF1 hF2 hF3
  cases hr : jRight 16 v 0 with
  | none =>
    have hw : Box (jWrite v = ([], 1)) := box (by unfold jWrite; rw [hr])
    simp only [Option.isSome_none]
    go_wp2_with fail
    go_ret2
    unfold WriteEnd
    rw [hw.out]
    exact ⟨_, rfl, hF4.tail.tail.pushNil _⟩
  | some x =>
    have hok := jRight_ok v 0 x hr
    have hw : Box (jWrite v = if 65536 < (jFull v).length then ([], 8) else (jFull v, 0)) := box (by unfold jWrite; rw [hr])
    simp only [Option.isSome_some]
    have hF5 := hF4.pushNil 5
    have hNU : NotU8 [Ent.blk g2 3 [.int .i64 (m4 : Int)], .blk g1 27 cs] := NotU8.cons (NotU8.cons (fun e he => by cases he) (by decide)) (by decide)
    have hwr := written_any (SizeOf.sizeOf v) v cs w w4 none 0 [] _ (Nat.le_refl _) hv hsm hok hL hNU (by simp; omega) hF5
    go_wp2_with (first | (with_reducible refine lst (by with_unfolding_all rfl) (wp_fldA1 hF4 Tryd.underlying27 rfl (by with_unfolding_all exact ⟨_, rfl, rfl⟩) (ds := cs) (by rw [hcl.out]; kernel_rfl) (take_all _) ?_)))
    refine hwr.mono ?_
    rintro e w6 ⟨u6, l6, rfl, hl6, hF6⟩
    obtain ⟨A6, c6, rfl, hc6, hr6⟩ := (hF6.own (i := 0) rfl).arg
    clear hwr hF5 hF4
    have hl7 := hl6.out
    rw [List.nil_append] at hl7
    by_cases hbig : 65536 < l6.length
    · have d1 : decide ((65536 : Int) < (l6.length : Int)) = true := decide_eq_true (by omega)
      have hend : Box (jWrite v = ([], 8)) := box (by rw [hw.out, if_pos (by omega)])
      replace hbig := box hbig
      replace hl7 := box hl7
      go_wp2_with fail
      go_ret2
      unfold WriteEnd
      rw [hend.out]
      exact ⟨_, rfl, hF6.tail.tail.tail.pushNil _⟩
    · have d1 : decide ((65536 : Int) < (l6.length : Int)) = false := decide_eq_false (by omega)
      have he : l6 = jFull v := hl7.2.resolve_right hbig
      have hend : Box (jWrite v = (l6, 0)) := box (by rw [hw.out, if_neg (by rw [← he]; exact hbig), he])
      replace hbig := box hbig
      replace hl7 := box hl7
      replace he := box he
      go_wp2_with fail
      go_ret2
      unfold WriteEnd
      rw [hend.out]
      exact ⟨_, rfl, hF6.pick1 (i := 0) rfl⟩
end Go.Proofs.YtdekogmegdhjoaaDoor

namespace Go.Proofs.YtdekogmegdhjoaaDoor
open Go.RowKit
set_option linter.unusedSimpArgs false

theorem VT.rdF {v : JV} {cs : List Value} {es' es : List Ent} {X : List Nat} {w0 w : World} (h : VT v cs es') (hF : Fr X w0 w es) (hs : ∀ e ∈ es', e ∈ es) : VRd w (· < w.heap.size) v cs :=
  VT.rd v h fun e he => by
    obtain ⟨i, hi⟩ := List.mem_iff_getElem?.1 (hs e he)
    exact ⟨hF.holds i e hi, fun b hb => Ent.lt (hF.holds i e hi) hb⟩
/-- Write, within a frame; its text stands ahead of the other entries. -/
def WriteEndF (X : List Nat) (w0 : World) (es : List Ent) (r : List UInt8 × Nat) (e : Ending) (w' : World) : Prop :=
  ∃ A n c, e = .returned (.tuple #[.slice A n c, .int .i64 (r.2 : Int)]) ∧ n = r.1.length ∧ n ≤ c ∧ Fr X w0 w' (.rd A 1 n (r.1.map bv) :: es)
theorem write_F {X : List Nat} {w0 w : World} {es : List Ent} {B : Nat} (hF : Fr X w0 w es) (hL : LibsAt B w) (hB : B ≤ w.heap.size) {v : JV} {cs : List Value} (hv : VRd w (· < w.heap.size) v cs) (hsm : JSm v) (htx : JTx v) (hfl : 6 * (jFull v).length ≤ 140737480000000) :
    Calls Tryd.prog 21 #[.agg cs.toArray] w (WriteEndF X w0 es (jWrite v)) := by
  refine (write_any v cs w (hL.up hB) hv hsm htx hfl).mono ?_
  rintro e w' ⟨u, rfl, hF'⟩
  obtain ⟨A, c, rfl, hc, hr⟩ := (hF'.own (i := 0) rfl).arg
  have h1 := hF'.toRd (i := 0) rfl
  simp only [List.set_cons_zero] at h1
  exact ⟨A, _, c, rfl, rfl, hc, hF.join h1⟩
/-- The text of a value that is right. -/
theorem jWrite_right {v : JV} {x : Nat} (h : jRight 16 v 0 = some x) : jWrite v = if 65536 < (jFull v).length then ([], 8) else (jFull v, 0) := by
  unfold jWrite
  rw [h]
end Go.Proofs.YtdekogmegdhjoaaDoor

namespace Go.Proofs.YtdekogmegdhjoaaDoor
open Go.RowKit
set_option linter.unusedSimpArgs false

theorem fr_new {w w' : World} {e : Ent} {es : List Ent} (hF : Fr [] w w' (e :: es)) {b : Nat} (hb : e.block = some b) : w.heap.size ≤ b := by
  rcases hF.fresh 0 e rfl b hb with h | h
  · exact h
  · simp at h
set_option maxRecDepth 20000 in
set_option maxHeartbeats 12800000 in
theorem jsonFields_any (v : JV) (cs : List Value) (nm : List UInt8) (w : World) (hL : LibsAt w.heap.size w) (hv : VRd w (· < w.heap.size) v cs) (hw : jW v ≤ 1048576) :
    Calls Tryd.prog 5 #[.agg cs.toArray, .string ⟨nm.toArray⟩] w fun e w' => e = .returned (.bool true) ∧ Below w.heap.size w w' := by
  have hcl := box hv.len
  have hco := box (VRd.one hv)
  have hsm := jW_sm v hw
  have hsm1 := jW_sm _ (Nat.le_trans (jW_cut 4 v 300) hw)
  have hdp := jCutN_dep 4 v 300
  have hct := jCut_dep (D := 20) (by decide) hdp
  obtain ⟨u, hu⟩ : ∃ u, u = (jCutN 4 v 300).1 := ⟨_, rfl⟩
  rw [← hu] at hsm1 hdp hct
  have hxs := field_sm (nm := nm) hsm1
  have hxd := jCut_dep (D := 20) (by decide) (field_dep (nm := nm) hdp)
  obtain ⟨x, hx⟩ : ∃ x, x = (jField nm u).getD .null := ⟨_, rfl⟩
  rw [← hx] at hxs hxd
  replace hct := box hct
  replace hxd := box hxd
  replace hu := box hu
  replace hx := box hx
  replace hw := box hw
  replace hdp := box hdp
  have hF0 := Fr.nil w
  go_enter Tryd.func5, Tryd.ntmps5
  go_upto_region 2 with (first | ((with_reducible refine lst (by with_unfolding_all rfl) (wp_fbox hF0 (cs := cs) rfl (by with_unfolding_all rfl) (by with_unfolding_all rfl) ?_)); intro w1 g1 hF1 hz1) | ((with_reducible refine lst (by with_unfolding_all rfl) (wp_falloc hF1 (cs := [(.int .i64 0)]) (z := (.int .i64 0)) rfl (by kernel_rfl) (by with_unfolding_all rfl) ?_)); intro w2 g2 hF2 hz2) | ((with_reducible refine lst (by with_unfolding_all rfl) (wp_fst0 hF2 (by with_unfolding_all exact ⟨_, _, rfl, rfl, rfl⟩) (by kernel_rfl) rfl rfl (by first | decide | (simp; done) | (simp; omega)) (spl1' _ (.int .i64 ((300 : Nat) : Int))) ?_)); intro w3 hF3 hz3))
  have hg2 := fr_new hF3 rfl
  have hcu := box (cut_any 4 v cs w3 g2 300 w.heap.size (by decide) (by decide) (hv.onG hF3.below) hsm hg2 hF3.size (hF3.blk (i := 0) rfl))
  go_wp2_with (first | (with_reducible refine lst (by with_unfolding_all rfl) (wp_fldA1 hF3 Tryd.underlying33 rfl (by with_unfolding_all exact ⟨_, rfl, rfl⟩) (ds := cs) (by rw [hcl.out]; kernel_rfl) (take_all _) ?_)))
  refine hcu.out.mono ?_
  rintro e w4 ⟨cs1, es1, rfl, hvc, h4⟩
  have hF4 := hF3.putG (i := 0) rfl h4
  simp only [List.set_cons_zero, List.cons_append, List.nil_append] at hF4
  have hvc1 := hvc.keep (w' := w) (fun k hk => (hF3.below.block k hk).symm)
  rw [← hu.out] at hvc1
  have hvl1 := box hvc.len
  have hvo1 := box hvc.one
  replace hvc1 := box hvc1
  clear hcu h4 hvc hF0 hF1 hF2 hF3
  go_upto_region 3 with (first | ((with_reducible refine lst (by with_unfolding_all rfl) (wp_fstA1 hF4 (by with_unfolding_all exact ⟨_, _, rfl, rfl, rfl⟩) (by rw [hvl1.out]; kernel_rfl) hvo1.out (by rw [hvl1.out, hcl.out]; decide) (spl_all (by rw [hvl1.out, hcl.out])) ?_)); intro w5 hF5 hz5))
  have hrd5 := hvc1.out.rdF hF5 hF5.size hF5.below (by intro e he; simp [he])
  have hto := box (to_any 20 u cs1 w5 (by decide) hrd5 hsm1)
  go_wp2_with (first | (with_reducible refine lst (by with_unfolding_all rfl) (wp_fldA1 hF5 Tryd.underlying33 rfl (by with_unfolding_all exact ⟨_, rfl, rfl⟩) (ds := cs1) (by rw [hvl1.out]; kernel_rfl) (take_all _) ?_)))
  refine hto.out.mono ?_
  rintro e w6 ⟨cs2, es2, rfl, hvt2, h6⟩
  rw [hct.out] at hvt2
  have hF6 := hF5.joinR h6
  simp only [List.cons_append] at hF6
  have hb6 := hF6.below
  have hL6 := (hL.on hb6).up hb6.size
  have hv1 := hvc1.out.rdF hF6 hF6.size hF6.below (by intro e he; simp [he])
  have hv2 := hvt2.rdF hF6 (by intro e he; simp [he])
  have hr1 : Rd w6 (· < w6.heap.size) (some ⟨g1, 0, none⟩) 1 5 cs1 := hF6.rdBlk (i := 1) rfl hvl1.out (by rw [List.drop_zero, ← hvl1.out, List.take_length])
  clear hto h6 hF4 hF5 hF6 hvt2 hrd5 hL hvc1
  have hG6 := Fr.nil w6
  have hfi := box (field_any u cs2 nm w6 w6.heap.size (Nat.le_refl _) hv2 hsm1)
  go_wp2_with fail
  refine hfi.out.mono ?_
  rintro e w7 ⟨cs3, rfl, hv3, hb7⟩
  rw [← hx.out] at hv3
  have hG7 := hG6.call hb7
  have hvl3 := box hv3.len
  have hvo3 := box (VRd.one hv3)
  clear hfi hb7 hv2
  go_upto_region 4 with (first | ((with_reducible refine lst (by with_unfolding_all rfl) (wp_falloc hG7 (cs := vl0) (z := .agg (List.toArray (vl0))) rfl (by kernel_rfl) (by with_unfolding_all rfl) ?_)); intro w8 g8 hF8 hz8) | ((with_reducible refine lst (by with_unfolding_all rfl) (wp_fstA0 hF8 (by with_unfolding_all exact ⟨_, _, rfl, rfl, rfl⟩) (by rw [hvl3.out]; kernel_rfl) hvo3.out (by rw [hvl3.out]; decide) (spl_all (by rw [hvl3.out, vlL_len])) ?_)); intro w9 hF9 hz9))
  have hrf := box (rfield_any u cs1 nm w9 w6.heap.size hF9.size (hv1.onG hF9.below) hsm1)
  have hr1' := hr1.below hF9.below
  have hcc1 : (cs1.drop 0).take cs1.length = cs1 := by rw [List.drop_zero, List.take_length]
  replace hcc1 := box hcc1
  go_wp2_with (first | (with_reducible refine lst (by with_unfolding_all rfl) (wp_loadA hr1' Tryd.underlying33 rfl (by with_unfolding_all exact ⟨_, rfl, rfl⟩) (ds := cs1) (by rw [hvl1.out]; kernel_rfl) hcc1.out ?_)))
  refine hrf.out.mono ?_
  rintro e w10 ⟨cs4, rfl, hv4, hb10⟩
  rw [← hx.out] at hv4
  have hG10 := hF9.call hb10
  have hv4' := hv4.keep (fun _ h => h) (fun k hk => (hF9.below.block k hk).symm) x
  have hvl4 := box hv4.len
  have hvo4 := box (VRd.one hv4)
  clear hrf hb10 hv4 hr1'
  go_upto_region 5 with (first | ((with_reducible refine lst (by with_unfolding_all rfl) (wp_falloc hG10 (cs := vl0) (z := .agg (List.toArray (vl0))) rfl (by kernel_rfl) (by with_unfolding_all rfl) ?_)); intro w11 g11 hF11 hz11) | ((with_reducible refine lst (by with_unfolding_all rfl) (wp_fstA0 hF11 (by with_unfolding_all exact ⟨_, _, rfl, rfl, rfl⟩) (by rw [hvl4.out]; kernel_rfl) hvo4.out (by rw [hvl4.out]; decide) (spl_all (by rw [hvl4.out, vlL_len])) ?_)); intro w12 hF12 hz12))
  have hfr := box (fun (w' : World) (hb : Below w6.heap.size w6 w') => from_any 20 x cs3 w' (by decide) (hv3.on hb) hxs)
  replace hv4' := box hv4'
  replace hxs := box hxs
  have hFd := hF12.drew
  refine wp_region_held (S := fun w' => w'.heap[g11]? = some (.cells (List.toArray cs4) 33 (0, 0)) ∧ w'.heap[g8]? = some (.cells (List.toArray cs3) 27 (0, 0))) (by kernel_rfl) ?_
  change wpAnyH _ _ _ _ _ _ _ _ (World.drew _)
  refine rdy1 0 (fun K hK => ?_)
  refine stp (by with_unfolding_all rfl) (wp_call Tryd.func13 rfl (by with_unfolding_all rfl) (by with_unfolding_all rfl) (by with_unfolding_all rfl) (awake_any _ _ hFd.below.size (hL6.on hFd.below)) ?_)
  rintro e w31 ⟨rfl, hb31⟩
  refine ⟨_, rfl, ?_⟩
  have hF31 := hFd.call hb31
  refine hK.out _ _ (⟨hF31.blk (i := 0) rfl, hF31.blk (i := 1) rfl⟩) (fun _ => ?_)
  clear hK K
  (try simp only [Act.put, List.setIfInBounds_toArray, List.set_cons_zero, List.set_cons_succ])
  refine tkp 1 ⟨hF31.blk (i := 0) rfl, hF31.blk (i := 1) rfl⟩ ?_
  (try simp only [Act.put, List.setIfInBounds_toArray, List.set_cons_zero, List.set_cons_succ])
  refine tkp 2 ⟨hF31.blk (i := 0) rfl, hF31.blk (i := 1) rfl⟩ ?_
  (try simp only [Act.put, List.setIfInBounds_toArray, List.set_cons_zero, List.set_cons_succ])
  refine tkp 3 ⟨hF31.blk (i := 0) rfl, hF31.blk (i := 1) rfl⟩ ?_
  (try simp only [Act.put, List.setIfInBounds_toArray, List.set_cons_zero, List.set_cons_succ])
  refine tkp 4 ⟨hF31.blk (i := 0) rfl, hF31.blk (i := 1) rfl⟩ ?_
  (try simp only [Act.put, List.setIfInBounds_toArray, List.set_cons_zero, List.set_cons_succ])
  refine tkp 5 ⟨hF31.blk (i := 0) rfl, hF31.blk (i := 1) rfl⟩ ?_
  (try simp only [Act.put, List.setIfInBounds_toArray, List.set_cons_zero, List.set_cons_succ])
  refine tkp 6 ⟨hF31.blk (i := 0) rfl, hF31.blk (i := 1) rfl⟩ ?_
  (try simp only [Act.put, List.setIfInBounds_toArray, List.set_cons_zero, List.set_cons_succ])
  refine tky 7 (y := yi_fldA (by with_unfolding_all rfl) (fun _ h => h.2) Tryd.underlying27 rfl (by with_unfolding_all exact ⟨_, rfl, rfl⟩) (ds := cs3) (by rw [hvl3.out]; kernel_rfl) (take_all _)) (s := ⟨hF31.blk (i := 0) rfl, hF31.blk (i := 1) rfl⟩) (h := ?_)
  (try simp only [Act.put, List.setIfInBounds_toArray, List.set_cons_zero, List.set_cons_succ])
  refine tky 9 (y := yi_fldA (by with_unfolding_all rfl) (fun _ h => h.1) Tryd.underlying33 rfl (by with_unfolding_all exact ⟨_, rfl, rfl⟩) (ds := cs4) (by rw [hvl4.out]; kernel_rfl) (take_all _)) (s := ⟨hF31.blk (i := 0) rfl, hF31.blk (i := 1) rfl⟩) (h := ?_)
  (try simp only [Act.put, List.setIfInBounds_toArray, List.set_cons_zero, List.set_cons_succ])
  refine rdy1 8 (fun K hK => ?_)
  refine stp (by with_unfolding_all rfl) (wp_call Tryd.func15 rfl (by with_unfolding_all rfl) (by with_unfolding_all rfl) (by with_unfolding_all rfl) (hfr.out _ hF31.below) ?_)
  rintro e w32 ⟨cs32, es32, rfl, hvt32, hv32⟩
  refine ⟨_, rfl, ?_⟩
  have hF32 := hF31.joinR hv32
  simp only [List.cons_append, List.nil_append] at hF32
  rw [hxd.out] at hvt32
  refine hK.out _ _ (⟨hF32.blk (i := 0) rfl, hF32.blk (i := 1) rfl⟩) (fun _ => ?_)
  clear hK K
  (try simp only [Act.put, List.setIfInBounds_toArray, List.set_cons_zero, List.set_cons_succ])
  refine rdy1 10 (fun K hK => ?_)
  refine stp (by with_unfolding_all rfl) (wp_call Tryd.func14 rfl (by with_unfolding_all rfl) (by with_unfolding_all rfl) (by with_unfolding_all rfl) (same_any _ x _ _ _ (Nat.le_refl _) (hvt32.rdF hF32 (by intro e he; simp [he])) (hv4'.out.on hF32.below) hxs.out) ?_)
  rintro e w33 ⟨rfl, hb33⟩
  refine ⟨_, rfl, ?_⟩
  have hF33 := hF32.call hb33
  refine hK.out _ _ (⟨hF33.blk (i := 0) rfl, hF33.blk (i := 1) rfl⟩) (fun _ => ?_)
  clear hK K
  (try simp only [Act.put, List.setIfInBounds_toArray, List.set_cons_zero, List.set_cons_succ])
  refine tkp 11 ⟨hF33.blk (i := 0) rfl, hF33.blk (i := 1) rfl⟩ ?_
  (try simp only [Act.put, List.setIfInBounds_toArray, List.set_cons_zero, List.set_cons_succ])
  refine tkp 12 ⟨hF33.blk (i := 0) rfl, hF33.blk (i := 1) rfl⟩ ?_
  (try simp only [Act.put, List.setIfInBounds_toArray, List.set_cons_zero, List.set_cons_succ])
  refine wpAnyH_done (by kernel_rfl) ?_ _
  go_wp2_with fail
  go_ret
  exact ⟨rfl, hb6.trans (hF33.below.mono hb6.size)⟩
/-- .. at any text. -/
theorem jsonFields_str (v : JV) (cs : List Value) (s : ByteArray) (w : World) (hL : LibsAt w.heap.size w) (hv : VRd w (· < w.heap.size) v cs) (hw : jW v ≤ 1048576) :
    Calls Tryd.prog 5 #[.agg cs.toArray, .string s] w fun e w' => e = .returned (.bool true) ∧ Below w.heap.size w w' := by
  obtain ⟨⟨l⟩⟩ := s
  exact jsonFields_any v cs l w hL hv hw
end Go.Proofs.YtdekogmegdhjoaaDoor

namespace Go.Proofs.YtdekogmegdhjoaaDoor

def nestP : Nat → List UInt8
  | 0 => []
  | i + 1 => nestP i ++ (if i % 2 = 0 then [91] else [123, 34, 97, 34, 58])
def nestC : Nat → List UInt8
  | 0 => []
  | i + 1 => (if i % 2 = 0 then 93 else 125) :: nestC i
def nestOk (d : Nat) : Bool :=
  match jParse (nestP d ++ [49] ++ nestC d) with
  | .ok v => decide (d ≤ 16) && (decide (d = 0) || v.kids.length == 1)
  | .error x => decide (16 < d) && (x.2 == 64) && decide (x.1 < (nestP d).length)
theorem nests_ok : ∀ d, d < 20 → nestOk d = true := by decide +kernel
theorem nestP_len : ∀ d, (nestP d).length ≤ 5 * d
  | 0 => Nat.le_refl _
  | d + 1 => by
    have := nestP_len d
    rw [nestP, List.length_append]
    split <;> simp <;> omega
theorem nestC_len : ∀ d, (nestC d).length = d
  | 0 => rfl
  | d + 1 => by rw [nestC, List.length_cons, nestC_len d]
def zB : Nat → List UInt8
  | 0 => [91]
  | i + 1 => zB i ++ (if i = 0 then [] else [44]) ++ [48]
theorem zB_len : ∀ i, (zB (i + 1)).length = 2 * i + 2
  | 0 => rfl
  | i + 1 => by
    rw [zB, List.length_append, List.length_append, zB_len i]
    simp
    omega
theorem zB_at : ∀ (i p : Nat), p < (zB i).length → (zB i)[p]? = some (if p = 0 then 91 else if p % 2 = 1 then 48 else 44)
  | 0, p, h => by
    have : p = 0 := by simp [zB] at h; exact h
    subst this; rfl
  | 1, p, h => by
    have h2 : p < 2 := h
    match p, h2 with
    | 0, _ => rfl
    | 1, _ => rfl
  | i + 2, p, h => by
    have hl := zB_len i
    have hl2 := zB_len (i + 1)
    rw [zB, if_neg (by omega), List.append_assoc]
    rcases Nat.lt_or_ge p (zB (i + 1)).length with h1 | h1
    · rw [List.getElem?_append_left h1]
      exact zB_at (i + 1) p h1
    · rw [List.getElem?_append_right h1, hl]
      rw [hl] at h1
      rw [hl2] at h
      have h3 : p = 2 * i + 2 ∨ p = 2 * i + 3 := by omega
      rcases h3 with rfl | rfl
      · rw [if_neg (by omega), if_neg (by omega), show 2 * i + 2 - (2 * i + 2) = 0 by omega]; rfl
      · rw [if_neg (by omega), if_pos (by omega), show 2 * i + 3 - (2 * i + 2) = 1 by omega]; rfl
/-- A list of zeros. -/
def zL (k : Nat) : List UInt8 := zB k ++ [93]
section
variable {k : Nat}
theorem zL_len (h : 0 < k) : (zL k).length = 2 * k + 1 := by
  obtain ⟨i, rfl⟩ : ∃ i, k = i + 1 := ⟨k - 1, by omega⟩
  unfold zL
  rw [List.length_append, zB_len]; simp; omega
theorem zL_num (h : 0 < k) {j : Nat} (hj : j < k) : (zL k)[2 * j + 1]? = some 48 := by
  obtain ⟨i, rfl⟩ : ∃ i, k = i + 1 := ⟨k - 1, by omega⟩
  have hl := zB_len i
  unfold zL
  rw [List.getElem?_append_left (by omega), zB_at _ _ (by omega), if_neg (by omega), if_pos (by omega)]
theorem zL_sep {j : Nat} (hj : j + 1 < k) : (zL k)[2 * j + 2]? = some 44 := by
  obtain ⟨i, rfl⟩ : ∃ i, k = i + 1 := ⟨k - 1, by omega⟩
  have hl := zB_len i
  unfold zL
  rw [List.getElem?_append_left (by omega), zB_at _ _ (by omega), if_neg (by omega), if_neg (by omega)]
theorem zL_end {j : Nat} (hj : j + 1 = k) : (zL k)[2 * j + 2]? = some 93 := by
  subst hj
  have hl := zB_len j
  unfold zL
  rw [List.getElem?_append_right (by omega), hl, Nat.sub_self]; rfl
theorem zL_val (d : Nat) {j m : Nat} (hj : j < k) (hm : m < 4096) : jValue (zL k) d (2 * j + 1) m = .ok (.mk 3 0 [] [] [], 2 * j + 2, m + 1) := by
  have h0 := zL_num (by omega) hj
  have hn : jNumber (zL k) (2 * j + 1) = .ok (0, 2 * j + 2) := by
    have hp := (List.getElem?_eq_some_iff.1 h0).1
    have h1 : ((zL k).drop (2 * j + 1)).takeWhile jNumC = [48] := by
      rw [List.drop_eq_getElem_cons hp, (List.getElem?_eq_some_iff.1 h0).2, List.takeWhile_cons, if_pos (by decide)]
      have h2 : ∃ x, (zL k)[2 * j + 1 + 1]? = some x ∧ jNumC x = false := by
        by_cases he : j + 1 = k
        · exact ⟨93, zL_end he, by decide⟩
        · exact ⟨44, zL_sep (by omega), by decide⟩
      obtain ⟨x, hx, hx2⟩ := h2
      have hp2 := (List.getElem?_eq_some_iff.1 hx).1
      rw [List.drop_eq_getElem_cons hp2, (List.getElem?_eq_some_iff.1 hx).2, List.takeWhile_cons, if_neg (by rw [hx2]; decide)]
    unfold jNumber
    simp only [h1]
    rfl
  have hw : ∀ val, jValueW (zL k) val (2 * j + 1) m = .ok (.mk 3 0 [] [] [], 2 * j + 2, m + 1) := fun val => by
    unfold jValueW
    rw [h0]
    simp only []
    rw [if_neg (by omega), if_neg (by decide), if_neg (by decide), if_neg (by decide), if_pos (by decide), hn]
  cases d with
  | zero => exact hw _
  | succ d => exact hw _
theorem zL_many (d : Nat) : ∀ (r j f : Nat) (kids : List JV), j + r = k → 0 < r → j < 4096 → r ≤ f → kids.length = j →
    (k < 4096 → ∃ ks, ks.length = k ∧ jManyL (zL k) 5 93 (jValue (zL k) d) f (2 * j + 1) (j + 1) [] kids = .ok (.mk 5 0 [] [] ks, 2 * k + 1, k + 1)) ∧
    (4096 ≤ k → jManyL (zL k) 5 93 (jValue (zL k) d) f (2 * j + 1) (j + 1) [] kids = .error (8191, 8)) := by
  intro r
  induction r with
  | zero => intro j f kids _ h; omega
  | succ r ih =>
    intro j f kids hjr _ hj4 hf hkl
    obtain ⟨f, rfl⟩ : ∃ g, f = g + 1 := ⟨f - 1, by omega⟩
    have hjk : j < k := by omega
    by_cases hlast : j = 4095
    · refine ⟨fun h => by omega, fun _ => ?_⟩
      subst hlast
      rw [jManyL, if_neg (by decide)]
      simp only []
      have hx : jValue (zL k) d (2 * 4095 + 1) (4095 + 1) = .error (8191, 8) := by
        have h0 := zL_num (by omega) hjk
        have hw : ∀ val, jValueW (zL k) val (2 * 4095 + 1) (4095 + 1) = .error (8191, 8) := fun val => by
          unfold jValueW
          rw [h0]
          simp only []
          rw [if_pos trivial]
        cases d with
        | zero => exact hw _
        | succ d => exact hw _
      rw [hx]
    · have hv := zL_val (k := k) d hjk (m := j + 1) (by omega)
      rw [jManyL, if_neg (by decide)]
      simp only [hv]
      by_cases he : j + 1 = k
      · have hx := zL_end he
        refine ⟨fun h4 => ⟨kids ++ [.mk 3 0 [] [] []], by simp; omega, ?_⟩, fun h4 => by omega⟩
        rw [jBlanks_stop hx (by decide)]
        unfold jNext
        rw [hx]
        simp only []
        rw [if_pos trivial, if_neg (by decide), show 2 * j + 2 + 1 = 2 * k + 1 by omega, show j + 1 + 1 = k + 1 by omega]
      · have hx := zL_sep (k := k) (j := j) (by omega)
        have hy := zL_num (k := k) (j := j + 1) (by omega) (by omega)
        have hb : jBlanks (zL k) (2 * j + 2 + 1) = 2 * (j + 1) + 1 := jBlanks_stop (p := 2 * (j + 1) + 1) hy (by decide)
        have hw : jWord (zL k) [44] (2 * j + 2) = .ok (2 * j + 2 + 1) := by
          unfold jWord
          rw [hx]
          simp only []
          rw [if_pos trivial]
          rfl
        have key := ih (j + 1) f (kids ++ [.mk 3 0 [] [] []]) (by omega) (by omega) (by omega) (by omega) (by simp; omega)
        rw [jBlanks_stop hx (by decide)]
        unfold jNext
        rw [hx]
        simp only []
        rw [if_neg (by decide), hw]
        simp only []
        rw [hb, if_neg (by decide)]
        exact key
theorem zL_parse (hk : k < 5000) : (k < 4096 → ∃ v, jParse (zL k) = .ok v ∧ v.kids.length = k) ∧ (4096 ≤ k → jParse (zL k) = .error (8191, 8)) := by
  by_cases h0 : k = 0
  · subst h0
    exact ⟨fun _ => ⟨.mk 5 0 [] [] [], by kernel_rfl, rfl⟩, fun h => by omega⟩
  · have hl := zL_len (k := k) (by omega)
    obtain ⟨i, rfl⟩ : ∃ i, k = i + 1 := ⟨k - 1, by omega⟩
    have hx0 : (zL (i + 1))[0]? = some 91 := by
      unfold zL
      rw [List.getElem?_append_left (by rw [zB_len]; omega), zB_at _ _ (by rw [zB_len]; omega), if_pos rfl]
    have hx1 := zL_num (k := i + 1) (by omega) (j := 0) (by omega)
    have hm : jMany (zL (i + 1)) 5 93 (some (jValue (zL (i + 1)) 15)) 0 1 = jManyL (zL (i + 1)) 5 93 (jValue (zL (i + 1)) 15) (2 * (i + 1) + 1) 1 1 [] [] := by
      unfold jMany
      simp only []
      rw [jBlanks_stop (p := 0 + 1) hx1 (by decide)]
      unfold jNext
      rw [hx1]
      simp only []
      rw [if_neg (by decide), hl]
      rfl
    have hv : jValue (zL (i + 1)) 16 0 0 = jMany (zL (i + 1)) 5 93 (some (jValue (zL (i + 1)) 15)) 0 1 := by
      show jValueW _ _ 0 0 = _
      unfold jValueW
      rw [hx0]
      simp only []
      rw [if_neg (by decide), if_neg (by decide), if_neg (by decide), if_neg (by decide), if_neg (by decide), if_neg (by decide), if_pos trivial]
    have hp : jParse (zL (i + 1)) = match jMany (zL (i + 1)) 5 93 (some (jValue (zL (i + 1)) 15)) 0 1 with
        | .error x => .error x
        | .ok (v, p, _) => if jBlanks (zL (i + 1)) p < (zL (i + 1)).length then .error (jBlanks (zL (i + 1)) p, 10) else .ok v := by
      unfold jParse
      rw [if_neg (by omega), jBlanks_stop hx0 (by decide), hv]
      rfl
    obtain ⟨h1, h2⟩ := zL_many (k := i + 1) 15 (i + 1) 0 (2 * (i + 1) + 1) [] (by omega) (by omega) (by omega) (by omega) rfl
    refine ⟨fun h4 => ?_, fun h4 => ?_⟩
    · obtain ⟨ks, hks, hkk⟩ := h1 h4
      refine ⟨.mk 5 0 [] [] ks, ?_, hks⟩
      have hkk' : jManyL (zL (i + 1)) 5 93 (jValue (zL (i + 1)) 15) (2 * (i + 1) + 1) 1 1 [] [] = .ok (.mk 5 0 [] [] ks, 2 * (i + 1) + 1, i + 1 + 1) := hkk
      rw [hp, hm, hkk']
      simp only []
      rw [jBlanks_end (by rw [hl]; exact Nat.le_refl _), if_neg (by omega)]
    · rw [hp, hm]
      have := h2 h4
      rw [show (2 * 0 + 1 : Nat) = 1 from rfl] at this
      rw [this]
end
end Go.Proofs.YtdekogmegdhjoaaDoor

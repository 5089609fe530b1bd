/-
  Layer 6: an object's members, in plain words. No program is named here.
  Layer 6, plain law: what is kept of a value that is cut. No program is named here.
  Layer 6: the program's Field and the document's, walked.
  Layer 6: the program's Write within a frame; what is known of a value that was read.
  Layer 6: the law JsonFields, walked.
  Layer 6: the law JsonBack, walked.
  A sign of a text, by its place: the laws of the operation. No program is named here.
-/
import Derived.Test.YtdekogmegdhjoaaDoorM14
import Derived.Test.YtdekogmegdhjoaaDoorM17
import Derived.Test.YtdekogmegdhjoaaDoorM15
import Derived.Test.YtdekogmegdhjoaaDoorM03
import Derived.Test.YtdekogmegdhjoaaDoorM11
namespace Go.Proofs.YtdekogmegdhjoaaDoor
open Go.RowKit

def jFieldL (nm : List UInt8) : List (List UInt8) → List JV → Option JV
  | s :: ns, v :: ks => if s = nm then some v else jFieldL nm ns ks
  | _, _ => none
/-- A member of an object. -/
def jField (nm : List UInt8) : JV → Option JV
  | .mk k _ _ ns ks => if k = 6 then jFieldL nm ns ks else none
theorem jFieldL_here {nm : List UInt8} {ns : List (List UInt8)} {ks : List JV} {i : Nat} {v : JV} (hs : ns[i]? = some nm) (hv : ks[i]? = some v) : jFieldL nm (ns.drop i) (ks.drop i) = some v := by
  rw [List.drop_eq_getElem_cons (List.getElem?_eq_some_iff.1 hv).1, (List.getElem?_eq_some_iff.1 hv).2, List.drop_eq_getElem_cons (List.getElem?_eq_some_iff.1 hs).1, (List.getElem?_eq_some_iff.1 hs).2, jFieldL, if_pos rfl]
theorem jFieldL_out {nm : List UInt8} {ns : List (List UInt8)} {ks : List JV} {i : Nat} (h : ns.length ≤ i ∨ ks.length ≤ i) : jFieldL nm (ns.drop i) (ks.drop i) = none := by
  rcases h with h | h
  · rw [List.drop_of_length_le h, jFieldL]; rintro _ _ _ _ h; cases h
  · rw [List.drop_of_length_le h, jFieldL]; rintro _ _ _ _ _ h; cases h
theorem jFieldL_next {nm s : List UInt8} {ns : List (List UInt8)} {ks : List JV} {i : Nat} (hs : ns[i]? = some s) (h : s ≠ nm ∨ ks.length ≤ i) : jFieldL nm (ns.drop i) (ks.drop i) = jFieldL nm (ns.drop (i + 1)) (ks.drop (i + 1)) := by
  rcases Nat.lt_or_ge i ks.length with hi | hi
  · have hv : ks[i]? = some ks[i] := List.getElem?_eq_getElem hi
    rw [List.drop_eq_getElem_cons hi, List.drop_eq_getElem_cons (List.getElem?_eq_some_iff.1 hs).1, (List.getElem?_eq_some_iff.1 hs).2, jFieldL, if_neg (h.resolve_right (by omega))]
  · rw [jFieldL_out (.inr hi), jFieldL_out (.inr (by omega))]
/-- What the two programs' Field tells. -/
def FieldPost (w : World) (B : Nat) (nm : List UInt8) (v : JV) (e : Ending) (w' : World) : Prop :=
  ∃ cs', e = .returned (.tuple #[.agg cs'.toArray, .bool (jField nm v).isSome]) ∧ VRd w (· < B) ((jField nm v).getD .null) cs' ∧ Below w.heap.size w w'
theorem null_rd (w : World) (S : Nat → Prop) : VRd w S .null vl0 := by
  unfold JV.null
  rw [VRd]
  refine ⟨none, 0, 0, none, 0, 0, [], Nat.le_refl _, Nat.le_refl _, rfl, Rd.nil _ _ _ _, Rd.nil _ _ _ _, by rw [VRdL]⟩
end Go.Proofs.YtdekogmegdhjoaaDoor

namespace Go.Proofs.YtdekogmegdhjoaaDoor

theorem jWL_cut {f : JV → Nat → JV × Nat} (hf : ∀ v m, jW (f v m).1 ≤ jW v) : ∀ (ks : List JV) (m : Nat), jWL (jCutL f ks m).1 ≤ jWL ks
  | [], m => Nat.le_refl _
  | v :: vs, 0 => by rw [jCutL, jWL]; omega
  | v :: vs, m + 1 => by
    rw [jCutL]
    have h1 := jWL_cut hf vs (f v m).2
    have h2 := hf v m
    simp only [jWL]
    omega
theorem jW_cut : ∀ (d : Nat) (v : JV) (m : Nat), jW (jCutN d v m).1 ≤ jW v
  | 0, .mk k n t ns ks, m => by rw [jCutN]; simp only [jW, jWL]; omega
  | d + 1, .mk k n t ns ks, m => by
    rw [jCutN]
    have := jWL_cut (jW_cut d) ks m
    simp only [jW]
    omega
theorem JIL_cut {f : JV → Nat → JV × Nat} (hf : ∀ v m, JI v → JI (f v m).1) : ∀ (ks : List JV) (m : Nat), JIL ks → JIL (jCutL f ks m).1
  | [], m, _ => by rw [jCutL, JIL]; trivial
  | v :: vs, 0, _ => by rw [jCutL, JIL]; trivial
  | v :: vs, m + 1, h => by
    rw [jCutL]
    rw [JIL] at h
    simp only [JIL]
    exact ⟨hf v m h.1, JIL_cut hf vs _ h.2⟩
theorem JI_cut : ∀ (d : Nat) (v : JV) (m : Nat), JI v → JI (jCutN d v m).1
  | 0, .mk k n t ns ks, m, h => by rw [jCutN]; rw [JI] at h; simp only [JI, JIL]; exact ⟨h.1, h.2.1, trivial⟩
  | d + 1, .mk k n t ns ks, m, h => by
    rw [jCutN]
    rw [JI] at h
    simp only [JI]
    exact ⟨h.1, h.2.1, JIL_cut (JI_cut d) ks m h.2.2⟩
/-- A value that is no deeper. -/
def JDep : Nat → JV → Prop
  | 0, .mk _ _ _ _ ks => ks = []
  | d + 1, .mk _ _ _ _ ks => ∀ v ∈ ks, JDep d v
theorem jCut_dep : ∀ {d D : Nat} {v : JV}, d ≤ D → JDep d v → jCut D v = v
  | 0, D, .mk k n t ns ks, _, h => by
    rw [JDep] at h
    subst h
    cases D <;> rw [jCut] <;> rfl
  | d + 1, 0, v, hD, _ => by omega
  | d + 1, D + 1, .mk k n t ns ks, hD, h => by
    rw [JDep] at h
    rw [jCut]
    congr 1
    have : ∀ v ∈ ks, jCut D v = v := fun v hv => jCut_dep (by omega) (h v hv)
    calc ks.map (jCut D) = ks.map id := List.map_congr_left this
      _ = ks := List.map_id _
theorem jCutL_mem {f : JV → Nat → JV × Nat} {Q : JV → Prop} (hf : ∀ v m, Q (f v m).1) : ∀ (ks : List JV) (m : Nat), ∀ v ∈ (jCutL f ks m).1, Q v
  | [], m, v, h => by cases h
  | _ :: _, 0, v, h => by cases h
  | x :: vs, m + 1, v, h => by
    rw [jCutL] at h
    rcases List.mem_cons.1 h with rfl | h
    · exact hf x m
    · exact jCutL_mem hf vs _ v h
theorem jCutN_dep : ∀ (d : Nat) (v : JV) (m : Nat), JDep d (jCutN d v m).1
  | 0, .mk k n t ns ks, m => by rw [jCutN, JDep]
  | d + 1, .mk k n t ns ks, m => by
    rw [jCutN, JDep]
    exact jCutL_mem (jCutN_dep d) ks m
theorem jCut_cut {d D : Nat} (h : d ≤ D) (v : JV) (m : Nat) : jCut D (jCutN d v m).1 = (jCutN d v m).1 := jCut_dep h (jCutN_dep d v m)
theorem JDep.up : ∀ {d : Nat} {v : JV}, JDep d v → JDep (d + 1) v
  | 0, .mk k n t ns ks, h => by rw [JDep] at h; subst h; rw [JDep]; intro v hv; cases hv
  | d + 1, .mk k n t ns ks, h => by
    rw [JDep] at h
    rw [JDep]
    exact fun v hv => (h v hv).up
theorem jFieldL_dep {nm : List UInt8} {Q : JV → Prop} : ∀ (ns : List (List UInt8)) (ks : List JV) (v : JV), jFieldL nm ns ks = some v → (∀ v ∈ ks, Q v) → Q v
  | [], ks, v, h, _ => by cases ks <;> cases h
  | _ :: _, [], v, h, _ => by cases h
  | s :: ns, x :: ks, v, h, hq => by
    rw [jFieldL] at h
    split at h
    · injection h with h; subst h; exact hq _ (by simp)
    · exact jFieldL_dep ns ks v h (fun v hv => hq v (by simp [hv]))
theorem JSmL_mem {ks : List JV} (h : JSmL ks) : ∀ v ∈ ks, JSm v := fun v hv => by
  obtain ⟨i, hi⟩ := List.mem_iff_getElem?.1 hv
  exact h.at hi
/-- A member is no deeper than its object. -/
theorem field_dep {nm : List UInt8} {d : Nat} {v : JV} (h : JDep d v) : JDep d ((jField nm v).getD .null) := by
  obtain ⟨k, n, t, ns, ks⟩ := v
  cases hj : jField nm (.mk k n t ns ks) with
  | none => cases d <;> (unfold JV.null; simp [JDep])
  | some x =>
    rw [jField] at hj
    split at hj
    · cases d with
      | zero => rw [JDep] at h; subst h; cases ns <;> cases hj
      | succ d => rw [JDep] at h; exact (jFieldL_dep ns ks x hj h).up
    · cases hj
theorem field_sm {nm : List UInt8} {v : JV} (h : JSm v) : JSm ((jField nm v).getD .null) := by
  obtain ⟨k, n, t, ns, ks⟩ := v
  cases hj : jField nm (.mk k n t ns ks) with
  | none => unfold JV.null; simp [JSm, JSmL]
  | some x =>
    rw [jField] at hj
    rw [JSm] at h
    split at hj
    · exact jFieldL_dep ns ks x hj (JSmL_mem h.2.2)
    · cases hj
end Go.Proofs.YtdekogmegdhjoaaDoor

namespace Go.Proofs.YtdekogmegdhjoaaDoor
open Go.RowKit
set_option linter.unusedSimpArgs false


set_option maxRecDepth 20000 in
set_option maxHeartbeats 6400000 in
theorem field_any (v : JV) (cs : List Value) (nm : List UInt8) (w : World) (B : Nat) (hB : B ≤ w.heap.size) (hv : VRd w (· < B) v cs) (hsm : JSm v) :
    Calls Tryd.prog 19 #[.agg cs.toArray, .string ⟨nm.toArray⟩] w (FieldPost w B nm v) := by
  obtain ⟨k, n, t, ns, ks⟩ := v
  rw [VRd] at hv
  obtain ⟨An, nn, cn, Ak, nk, ck, xk, hcn, hck, rfl, hrn, hrk, hvk⟩ := hv
  rw [JSm] at hsm
  obtain ⟨hs1, hs2, hs3⟩ := hsm
  have hnn : ns.length = nn := by have := hrn.len; simpa using this
  have hnk : ks.length = nk := by have := hrk.len; rw [hvk.len] at this; omega
  rw [hnn] at hs1
  rw [hnk] at hs2
  replace hnn := box hnn
  replace hnk := box hnk
  replace hvk := box hvk
  have hF0 := Fr.nil w
  by_cases hk6 : k = 6
  · have d6 : (k != 6) = false := by rw [bne_eq_false_iff_eq]; exact hk6
    have hjf0 : Box (jField nm (.mk k n t ns ks) = jFieldL nm ns ks) := box (by rw [jField, if_pos hk6])
    replace hk6 := box hk6
    go_enter Tryd.func19, Tryd.ntmps19
    go_wp2_with (first | ((with_reducible refine lst (by with_unfolding_all rfl) (wp_fbox hF0 (cs := (vlL k n ⟨t.toArray⟩ (.slice An nn cn) (.slice Ak nk ck))) rfl (by with_unfolding_all rfl) (by with_unfolding_all rfl) ?_)); intro w1 g1 hF1 hz1) | ((with_reducible refine lst (by with_unfolding_all rfl) (wp_falloc hF1 (cs := vl0) (z := .agg (List.toArray (vl0))) rfl (by kernel_rfl) (by with_unfolding_all rfl) ?_)); intro w2 g2 hF2 hz2) | (with_reducible refine lst (by with_unfolding_all rfl) (wp_fld1 hF2 Tryd.underlying3 rfl (by with_unfolding_all exact ⟨_, rfl, rfl⟩) rfl ?_)) | (with_reducible refine lst (by with_unfolding_all rfl) (wp_fld1 hF2 Tryd.underlying24 rfl (by with_unfolding_all exact ⟨_, rfl, rfl⟩) rfl ?_)))
    clear hF0 hF1
    go_loopg [15] nn (fun gk s wr => ∃ i : Nat, i ≤ nn ∧ Box (gk = nn - i) ∧ s = .int .i64 (i : Int) ∧ Box (jFieldL nm ns ks = jFieldL nm (ns.drop i) (ks.drop i)) ∧ Fr [] w wr [.blk g2 27 vl0, .blk g1 27 (vlL k n ⟨t.toArray⟩ (.slice An nn cn) (.slice Ak nk ck))])
    case atStart => exact ⟨0, by omega, box rfl, rfl, box (by simp), hF2⟩
    case round =>
      clear hF2
      obtain ⟨i, hi, hk, rfl, hJ, hF⟩ := hrel
      have hrn' := hrn.below (hF.below.mono hB)
      have hrk' := hrk.below (hF.below.mono hB)
      by_cases hlt : i < nn
      · obtain ⟨s, hs⟩ : ∃ s, ns[i]? = some s := ⟨ns[i]'(by rw [hnn.out]; exact hlt), by simp⟩
        have hss : Box ((ns.map strv)[i]? = some (.string ⟨s.toArray⟩)) := box (by rw [List.getElem?_map, hs]; rfl)
        by_cases hik : i < nk
        · by_cases hst : s = nm
          · subst hst
            obtain ⟨vi, hvi⟩ : ∃ vi, ks[i]? = some vi := ⟨ks[i]'(by rw [hnk.out]; exact hik), by simp⟩
            obtain ⟨ci, hci, hvri⟩ := hvk.out.at hvi
            have hcil := box hvri.len
            have hcio := box hvri.one
            replace hci := box hci
            replace hvri := box hvri
            have hjf : Box (jField s (.mk k n t ns ks) = some vi) := box (by rw [hjf0.out, hJ.out]; exact jFieldL_here hs hvi)
            replace hs := box hs
            replace hvi := box hvi
            go_wp2_with (first | (with_reducible refine lst (by with_unfolding_all rfl) (wp_fld1 hF Tryd.underlying24 rfl (by with_unfolding_all exact ⟨_, rfl, rfl⟩) rfl ?_)) | (with_reducible refine lst (by with_unfolding_all rfl) (wp_fld1 hF Tryd.underlying3 rfl (by with_unfolding_all exact ⟨_, rfl, rfl⟩) rfl ?_)) | (with_reducible refine lst (by with_unfolding_all rfl) (wp_fld1 hF Tryd.underlying25 rfl (by with_unfolding_all exact ⟨_, rfl, rfl⟩) rfl ?_)) | (with_reducible refine lst (by with_unfolding_all rfl) (wp_indexAddr T_strs hrn' (by with_unfolding_all exact ⟨_, _, _, _, rfl, rfl, rfl⟩) (by omega) (by omega) ?_)) | (with_reducible refine lst (by with_unfolding_all rfl) (wp_load1C hrn' hss Tryd.underlying9 rfl (by with_unfolding_all exact ⟨_, rfl, rfl⟩) (by first | (simp; done) | (simp; omega) | omega) ?_)) | (with_reducible refine lst (by with_unfolding_all rfl) (wp_indexAddr T_vals hrk' (by with_unfolding_all exact ⟨_, _, _, _, rfl, rfl, rfl⟩) (by omega) (by omega) ?_)) | (with_reducible refine lst (by with_unfolding_all rfl) (wp_loadA hrk' Tryd.underlying27 rfl (by with_unfolding_all exact ⟨_, rfl, rfl⟩) (ds := ci) (by rw [hcil.out]; kernel_rfl) (by rw [hcil.out]; with_unfolding_all exact hci.out) ?_)) | ((with_reducible refine lst (by with_unfolding_all rfl) (wp_fstA0 hF (by with_unfolding_all exact ⟨_, _, rfl, rfl, rfl⟩) (by rw [hcil.out]; kernel_rfl) hcio.out (by rw [hcil.out, vlL_len]; decide) (spl_all (by rw [hcil.out, vlL_len])) ?_)); intro w9 hF9 hz9))
            exact bodyPost_ret (results_cellF2 rfl _ hF9 (i := 0) rfl rfl Tryd.underlying27 rfl (by rw [hcil.out]; kernel_rfl)) rfl (by
              unfold FieldPost
              rw [hjf.out]
              exact ⟨_, rfl, hvri.out, hF9.below⟩)
          · have hst2 : (s == nm) = false := by rw [beq_eq_false_iff_ne]; exact hst
            have hJ2 : Box (jFieldL nm ns ks = jFieldL nm (ns.drop (i + 1)) (ks.drop (i + 1))) := box (hJ.out.trans (jFieldL_next hs (.inl hst)))
            replace hst := box hst
            replace hs := box hs
            go_wp2_with (first | (with_reducible refine lst (by with_unfolding_all rfl) (wp_fld1 hF Tryd.underlying24 rfl (by with_unfolding_all exact ⟨_, rfl, rfl⟩) rfl ?_)) | (with_reducible refine lst (by with_unfolding_all rfl) (wp_fld1 hF Tryd.underlying3 rfl (by with_unfolding_all exact ⟨_, rfl, rfl⟩) rfl ?_)) | (with_reducible refine lst (by with_unfolding_all rfl) (wp_fld1 hF Tryd.underlying25 rfl (by with_unfolding_all exact ⟨_, rfl, rfl⟩) rfl ?_)) | (with_reducible refine lst (by with_unfolding_all rfl) (wp_indexAddr T_strs hrn' (by with_unfolding_all exact ⟨_, _, _, _, rfl, rfl, rfl⟩) (by omega) (by omega) ?_)) | (with_reducible refine lst (by with_unfolding_all rfl) (wp_load1C hrn' hss Tryd.underlying9 rfl (by with_unfolding_all exact ⟨_, rfl, rfl⟩) (by first | (simp; done) | (simp; omega) | omega) ?_)))
            go_roundg (nn - (i + 1))
            case rel => exact ⟨i + 1, by omega, box rfl, by go_num, hJ2, hF⟩
            case measure => have := hk.out; omega
        · have hJ2 : Box (jFieldL nm ns ks = jFieldL nm (ns.drop (i + 1)) (ks.drop (i + 1))) := box (hJ.out.trans (jFieldL_next hs (.inr (by rw [hnk.out]; omega))))
          replace hs := box hs
          cases hst : (s == nm) with
          | false =>
            go_wp2_with (first | (with_reducible refine lst (by with_unfolding_all rfl) (wp_fld1 hF Tryd.underlying25 rfl (by with_unfolding_all exact ⟨_, rfl, rfl⟩) rfl ?_)) | (with_reducible refine lst (by with_unfolding_all rfl) (wp_indexAddr T_strs hrn' (by with_unfolding_all exact ⟨_, _, _, _, rfl, rfl, rfl⟩) (by omega) (by omega) ?_)) | (with_reducible refine lst (by with_unfolding_all rfl) (wp_load1C hrn' hss Tryd.underlying9 rfl (by with_unfolding_all exact ⟨_, rfl, rfl⟩) (by first | (simp; done) | (simp; omega) | omega) ?_)))
            go_roundg (nn - (i + 1))
            case rel => exact ⟨i + 1, by omega, box rfl, by go_num, hJ2, hF⟩
            case measure => have := hk.out; omega
          | true =>
            go_wp2_with (first | (with_reducible refine lst (by with_unfolding_all rfl) (wp_fld1 hF Tryd.underlying25 rfl (by with_unfolding_all exact ⟨_, rfl, rfl⟩) rfl ?_)) | (with_reducible refine lst (by with_unfolding_all rfl) (wp_indexAddr T_strs hrn' (by with_unfolding_all exact ⟨_, _, _, _, rfl, rfl, rfl⟩) (by omega) (by omega) ?_)) | (with_reducible refine lst (by with_unfolding_all rfl) (wp_load1C hrn' hss Tryd.underlying9 rfl (by with_unfolding_all exact ⟨_, rfl, rfl⟩) (by first | (simp; done) | (simp; omega) | omega) ?_)))
            go_roundg (nn - (i + 1))
            case rel => exact ⟨i + 1, by omega, box rfl, by go_num, hJ2, hF⟩
            case measure => have := hk.out; omega
      · have hjf : Box (jField nm (.mk k n t ns ks) = none) := box (by rw [hjf0.out, hJ.out]; exact jFieldL_out (.inl (by rw [hnn.out]; omega)))
        go_wp2_with (first | (with_reducible refine lst (by with_unfolding_all rfl) (wp_fld1 hF Tryd.underlying24 rfl (by with_unfolding_all exact ⟨_, rfl, rfl⟩) rfl ?_)) | (with_reducible refine lst (by with_unfolding_all rfl) (wp_fld1 hF Tryd.underlying25 rfl (by with_unfolding_all exact ⟨_, rfl, rfl⟩) rfl ?_)) | (with_reducible refine lst (by with_unfolding_all rfl) (wp_fbuild Tryd.underlying27 (z := .agg (List.toArray vl0)) (by kernel_rfl) (pl := vlP) (by kernel_rfl) (cs := vl0) rfl (vs := []) (by with_unfolding_all rfl) (by with_unfolding_all rfl) ?_)) | ((with_reducible refine lst (by with_unfolding_all rfl) (wp_fstA0 hF (by with_unfolding_all exact ⟨_, _, rfl, rfl, rfl⟩) (by rw [vlL_len]; kernel_rfl) vlL_one vlL_fit vlL_spl ?_)); intro w9 hF9 hz9))
        exact bodyPost_ret (results_cellF2 rfl _ hF9 (i := 0) rfl rfl Tryd.underlying27 rfl (by rw [vlL_len]; kernel_rfl)) rfl (by
          unfold FieldPost
          rw [hjf.out]
          exact ⟨_, rfl, null_rd _ _, hF9.below⟩)
  · have d6 : (k != 6) = true := by rw [bne_iff_ne]; exact hk6
    have hjf : Box (jField nm (.mk k n t ns ks) = none) := box (by rw [jField, if_neg hk6])
    replace hk6 := box hk6
    go_enter Tryd.func19, Tryd.ntmps19
    go_wp2_with (first | ((with_reducible refine lst (by with_unfolding_all rfl) (wp_fbox hF0 (cs := (vlL k n ⟨t.toArray⟩ (.slice An nn cn) (.slice Ak nk ck))) rfl (by with_unfolding_all rfl) (by with_unfolding_all rfl) ?_)); intro w1 g1 hF1 hz1) | ((with_reducible refine lst (by with_unfolding_all rfl) (wp_falloc hF1 (cs := vl0) (z := .agg (List.toArray (vl0))) rfl (by kernel_rfl) (by with_unfolding_all rfl) ?_)); intro w2 g2 hF2 hz2) | (with_reducible refine lst (by with_unfolding_all rfl) (wp_fld1 hF2 Tryd.underlying3 rfl (by with_unfolding_all exact ⟨_, rfl, rfl⟩) rfl ?_)) | (with_reducible refine lst (by with_unfolding_all rfl) (wp_fbuild Tryd.underlying27 (z := .agg (List.toArray vl0)) (by kernel_rfl) (pl := vlP) (by kernel_rfl) (cs := vl0) rfl (vs := []) (by with_unfolding_all rfl) (by with_unfolding_all rfl) ?_)) | ((with_reducible refine lst (by with_unfolding_all rfl) (wp_fstA0 hF2 (by with_unfolding_all exact ⟨_, _, rfl, rfl, rfl⟩) (by rw [vlL_len]; kernel_rfl) vlL_one vlL_fit vlL_spl ?_)); intro w9 hF9 hz9))
    exact bodyPost_ret (results_cellF2 rfl _ hF9 (i := 0) rfl rfl Tryd.underlying27 rfl (by rw [vlL_len]; kernel_rfl)) rfl (by
      unfold FieldPost
      rw [hjf.out]
      exact ⟨_, rfl, null_rd _ _, hF9.below⟩)

set_option maxRecDepth 20000 in
set_option maxHeartbeats 6400000 in
theorem rfield_any (v : JV) (cs : List Value) (nm : List UInt8) (w : World) (B : Nat) (hB : B ≤ w.heap.size) (hv : VRd w (· < B) v cs) (hsm : JSm v) :
    Calls Tryd.prog 20 #[.agg cs.toArray, .string ⟨nm.toArray⟩] w (FieldPost w B nm v) := by
  obtain ⟨k, n, t, ns, ks⟩ := v
  rw [VRd] at hv
  obtain ⟨An, nn, cn, Ak, nk, ck, xk, hcn, hck, rfl, hrn, hrk, hvk⟩ := hv
  rw [JSm] at hsm
  obtain ⟨hs1, hs2, hs3⟩ := hsm
  have hnn : ns.length = nn := by have := hrn.len; simpa using this
  have hnk : ks.length = nk := by have := hrk.len; rw [hvk.len] at this; omega
  rw [hnn] at hs1
  rw [hnk] at hs2
  replace hnn := box hnn
  replace hnk := box hnk
  replace hvk := box hvk
  have hF0 := Fr.nil w
  by_cases hk6 : k = 6
  · have d6 : (k == 6) = true := by rw [beq_iff_eq]; exact hk6
    have hjf0 : Box (jField nm (.mk k n t ns ks) = jFieldL nm ns ks) := box (by rw [jField, if_pos hk6])
    replace hk6 := box hk6
    go_enter Tryd.func20, Tryd.ntmps20
    go_wp2_with (first | ((with_reducible refine lst (by with_unfolding_all rfl) (wp_fbox hF0 (cs := (vlL k n ⟨t.toArray⟩ (.slice An nn cn) (.slice Ak nk ck))) rfl (by with_unfolding_all rfl) (by with_unfolding_all rfl) ?_)); intro w1 g1 hF1 hz1) | ((with_reducible refine lst (by with_unfolding_all rfl) (wp_falloc hF1 (cs := vl0) (z := .agg (List.toArray (vl0))) rfl (by kernel_rfl) (by with_unfolding_all rfl) ?_)); intro w2 g2 hF2 hz2))
    clear hF0 hF1
    go_loopg [6] nn (fun gk s wr => ∃ i : Nat, i ≤ nn ∧ Box (gk = nn - i) ∧ s = .int .i64 (i : Int) ∧ Box (jFieldL nm ns ks = jFieldL nm (ns.drop i) (ks.drop i)) ∧ Fr [] w wr [.blk g2 33 vl0, .blk g1 33 (vlL k n ⟨t.toArray⟩ (.slice An nn cn) (.slice Ak nk ck))])
    case atStart => exact ⟨0, by omega, box rfl, rfl, box (by simp), hF2⟩
    case round =>
      clear hF2
      obtain ⟨i, hi, hk, rfl, hJ, hF⟩ := hrel
      have hrn' := hrn.below (hF.below.mono hB)
      have hrk' := hrk.below (hF.below.mono hB)
      by_cases hlt : i < nn
      · obtain ⟨s, hs⟩ : ∃ s, ns[i]? = some s := ⟨ns[i]'(by rw [hnn.out]; exact hlt), by simp⟩
        have hss : Box ((ns.map strv)[i]? = some (.string ⟨s.toArray⟩)) := box (by rw [List.getElem?_map, hs]; rfl)
        by_cases hik : i < nk
        · by_cases hst : s = nm
          · subst hst
            obtain ⟨vi, hvi⟩ : ∃ vi, ks[i]? = some vi := ⟨ks[i]'(by rw [hnk.out]; exact hik), by simp⟩
            obtain ⟨ci, hci, hvri⟩ := hvk.out.at hvi
            have hcil := box hvri.len
            have hcio := box hvri.one
            replace hci := box hci
            replace hvri := box hvri
            have hjf : Box (jField s (.mk k n t ns ks) = some vi) := box (by rw [hjf0.out, hJ.out]; exact jFieldL_here hs hvi)
            replace hs := box hs
            replace hvi := box hvi
            go_wp2_with (first | (with_reducible refine lst (by with_unfolding_all rfl) (wp_fld1 hF Tryd.underlying24 rfl (by with_unfolding_all exact ⟨_, rfl, rfl⟩) rfl ?_)) | (with_reducible refine lst (by with_unfolding_all rfl) (wp_fld1 hF Tryd.underlying3 rfl (by with_unfolding_all exact ⟨_, rfl, rfl⟩) rfl ?_)) | (with_reducible refine lst (by with_unfolding_all rfl) (wp_fld1 hF Tryd.underlying31 rfl (by with_unfolding_all exact ⟨_, rfl, rfl⟩) rfl ?_)) | (with_reducible refine lst (by with_unfolding_all rfl) (wp_indexAddr T_strs hrn' (by with_unfolding_all exact ⟨_, _, _, _, rfl, rfl, rfl⟩) (by omega) (by omega) ?_)) | (with_reducible refine lst (by with_unfolding_all rfl) (wp_load1C hrn' hss Tryd.underlying9 rfl (by with_unfolding_all exact ⟨_, rfl, rfl⟩) (by first | (simp; done) | (simp; omega) | omega) ?_)) | (with_reducible refine lst (by with_unfolding_all rfl) (wp_indexAddr T_rvals hrk' (by with_unfolding_all exact ⟨_, _, _, _, rfl, rfl, rfl⟩) (by omega) (by omega) ?_)) | (with_reducible refine lst (by with_unfolding_all rfl) (wp_loadA hrk' Tryd.underlying33 rfl (by with_unfolding_all exact ⟨_, rfl, rfl⟩) (ds := ci) (by rw [hcil.out]; kernel_rfl) (by rw [hcil.out]; with_unfolding_all exact hci.out) ?_)) | ((with_reducible refine lst (by with_unfolding_all rfl) (wp_fstA0 hF (by with_unfolding_all exact ⟨_, _, rfl, rfl, rfl⟩) (by rw [hcil.out]; kernel_rfl) hcio.out (by rw [hcil.out, vlL_len]; decide) (spl_all (by rw [hcil.out, vlL_len])) ?_)); intro w9 hF9 hz9))
            exact bodyPost_ret (results_cellF2 rfl _ hF9 (i := 0) rfl rfl Tryd.underlying33 rfl (by rw [hcil.out]; kernel_rfl)) rfl (by
              unfold FieldPost
              rw [hjf.out]
              exact ⟨_, rfl, hvri.out, hF9.below⟩)
          · have hst2 : (s == nm) = false := by rw [beq_eq_false_iff_ne]; exact hst
            have hJ2 : Box (jFieldL nm ns ks = jFieldL nm (ns.drop (i + 1)) (ks.drop (i + 1))) := box (hJ.out.trans (jFieldL_next hs (.inl hst)))
            replace hst := box hst
            replace hs := box hs
            go_wp2_with (first | (with_reducible refine lst (by with_unfolding_all rfl) (wp_fld1 hF Tryd.underlying24 rfl (by with_unfolding_all exact ⟨_, rfl, rfl⟩) rfl ?_)) | (with_reducible refine lst (by with_unfolding_all rfl) (wp_fld1 hF Tryd.underlying3 rfl (by with_unfolding_all exact ⟨_, rfl, rfl⟩) rfl ?_)) | (with_reducible refine lst (by with_unfolding_all rfl) (wp_fld1 hF Tryd.underlying31 rfl (by with_unfolding_all exact ⟨_, rfl, rfl⟩) rfl ?_)) | (with_reducible refine lst (by with_unfolding_all rfl) (wp_indexAddr T_strs hrn' (by with_unfolding_all exact ⟨_, _, _, _, rfl, rfl, rfl⟩) (by omega) (by omega) ?_)) | (with_reducible refine lst (by with_unfolding_all rfl) (wp_load1C hrn' hss Tryd.underlying9 rfl (by with_unfolding_all exact ⟨_, rfl, rfl⟩) (by first | (simp; done) | (simp; omega) | omega) ?_)))
            go_roundg (nn - (i + 1))
            case rel => exact ⟨i + 1, by omega, box rfl, by go_num, hJ2, hF⟩
            case measure => have := hk.out; omega
        · have hjf : Box (jField nm (.mk k n t ns ks) = none) := box (by rw [hjf0.out, hJ.out]; exact jFieldL_out (.inr (by rw [hnk.out]; omega)))
          replace hs := box hs
          go_wp2_with (first | (with_reducible refine lst (by with_unfolding_all rfl) (wp_fld1 hF Tryd.underlying24 rfl (by with_unfolding_all exact ⟨_, rfl, rfl⟩) rfl ?_)) | (with_reducible refine lst (by with_unfolding_all rfl) (wp_fld1 hF Tryd.underlying3 rfl (by with_unfolding_all exact ⟨_, rfl, rfl⟩) rfl ?_)) | (with_reducible refine lst (by with_unfolding_all rfl) (wp_fld1 hF Tryd.underlying31 rfl (by with_unfolding_all exact ⟨_, rfl, rfl⟩) rfl ?_)) | (with_reducible refine lst (by with_unfolding_all rfl) (wp_fbuild Tryd.underlying33 (z := .agg (List.toArray vl0)) (by kernel_rfl) (pl := vlP) (by kernel_rfl) (cs := vl0) rfl (vs := []) (by with_unfolding_all rfl) (by with_unfolding_all rfl) ?_)) | ((with_reducible refine lst (by with_unfolding_all rfl) (wp_fstA0 hF (by with_unfolding_all exact ⟨_, _, rfl, rfl, rfl⟩) (by rw [vlL_len]; kernel_rfl) vlL_one vlL_fit vlL_spl ?_)); intro w9 hF9 hz9))
          exact bodyPost_ret (results_cellF2 rfl _ hF9 (i := 0) rfl rfl Tryd.underlying33 rfl (by rw [vlL_len]; kernel_rfl)) rfl (by
            unfold FieldPost
            rw [hjf.out]
            exact ⟨_, rfl, null_rd _ _, hF9.below⟩)
      · have hjf : Box (jField nm (.mk k n t ns ks) = none) := box (by rw [hjf0.out, hJ.out]; exact jFieldL_out (.inl (by rw [hnn.out]; omega)))
        go_wp2_with (first | (with_reducible refine lst (by with_unfolding_all rfl) (wp_fld1 hF Tryd.underlying24 rfl (by with_unfolding_all exact ⟨_, rfl, rfl⟩) rfl ?_)) | (with_reducible refine lst (by with_unfolding_all rfl) (wp_fld1 hF Tryd.underlying31 rfl (by with_unfolding_all exact ⟨_, rfl, rfl⟩) rfl ?_)) | (with_reducible refine lst (by with_unfolding_all rfl) (wp_fbuild Tryd.underlying33 (z := .agg (List.toArray vl0)) (by kernel_rfl) (pl := vlP) (by kernel_rfl) (cs := vl0) rfl (vs := []) (by with_unfolding_all rfl) (by with_unfolding_all rfl) ?_)) | ((with_reducible refine lst (by with_unfolding_all rfl) (wp_fstA0 hF (by with_unfolding_all exact ⟨_, _, rfl, rfl, rfl⟩) (by rw [vlL_len]; kernel_rfl) vlL_one vlL_fit vlL_spl ?_)); intro w9 hF9 hz9))
        exact bodyPost_ret (results_cellF2 rfl _ hF9 (i := 0) rfl rfl Tryd.underlying33 rfl (by rw [vlL_len]; kernel_rfl)) rfl (by
          unfold FieldPost
          rw [hjf.out]
          exact ⟨_, rfl, null_rd _ _, hF9.below⟩)
  · have d6 : (k == 6) = false := by rw [beq_eq_false_iff_ne]; exact hk6
    have hjf : Box (jField nm (.mk k n t ns ks) = none) := box (by rw [jField, if_neg hk6])
    replace hk6 := box hk6
    go_enter Tryd.func20, Tryd.ntmps20
    go_wp2_with (first | ((with_reducible refine lst (by with_unfolding_all rfl) (wp_fbox hF0 (cs := (vlL k n ⟨t.toArray⟩ (.slice An nn cn) (.slice Ak nk ck))) rfl (by with_unfolding_all rfl) (by with_unfolding_all rfl) ?_)); intro w1 g1 hF1 hz1) | ((with_reducible refine lst (by with_unfolding_all rfl) (wp_falloc hF1 (cs := vl0) (z := .agg (List.toArray (vl0))) rfl (by kernel_rfl) (by with_unfolding_all rfl) ?_)); intro w2 g2 hF2 hz2))
    go_loopg [6] nn (fun gk s wr => s = .int .i64 0 ∧ wr = w2)
    case atStart => exact ⟨rfl, rfl⟩
    case round =>
      obtain ⟨rfl, rfl⟩ := hrel
      by_cases hlt : 0 < nn
      · by_cases hik : 0 < nk
        · go_wp2_with (first | (with_reducible refine lst (by with_unfolding_all rfl) (wp_fld1 hF2 Tryd.underlying24 rfl (by with_unfolding_all exact ⟨_, rfl, rfl⟩) rfl ?_)) | (with_reducible refine lst (by with_unfolding_all rfl) (wp_fld1 hF2 Tryd.underlying3 rfl (by with_unfolding_all exact ⟨_, rfl, rfl⟩) rfl ?_)) | (with_reducible refine lst (by with_unfolding_all rfl) (wp_fld1 hF2 Tryd.underlying31 rfl (by with_unfolding_all exact ⟨_, rfl, rfl⟩) rfl ?_)) | (with_reducible refine lst (by with_unfolding_all rfl) (wp_fbuild Tryd.underlying33 (z := .agg (List.toArray vl0)) (by kernel_rfl) (pl := vlP) (by kernel_rfl) (cs := vl0) rfl (vs := []) (by with_unfolding_all rfl) (by with_unfolding_all rfl) ?_)) | ((with_reducible refine lst (by with_unfolding_all rfl) (wp_fstA0 hF2 (by with_unfolding_all exact ⟨_, _, rfl, rfl, rfl⟩) (by rw [vlL_len]; kernel_rfl) vlL_one vlL_fit vlL_spl ?_)); intro w9 hF9 hz9))
          exact bodyPost_ret (results_cellF2 rfl _ hF9 (i := 0) rfl rfl Tryd.underlying33 rfl (by rw [vlL_len]; kernel_rfl)) rfl (by
            unfold FieldPost
            rw [hjf.out]
            exact ⟨_, rfl, null_rd _ _, hF9.below⟩)
        · go_wp2_with (first | (with_reducible refine lst (by with_unfolding_all rfl) (wp_fld1 hF2 Tryd.underlying24 rfl (by with_unfolding_all exact ⟨_, rfl, rfl⟩) rfl ?_)) | (with_reducible refine lst (by with_unfolding_all rfl) (wp_fld1 hF2 Tryd.underlying3 rfl (by with_unfolding_all exact ⟨_, rfl, rfl⟩) rfl ?_)) | (with_reducible refine lst (by with_unfolding_all rfl) (wp_fld1 hF2 Tryd.underlying31 rfl (by with_unfolding_all exact ⟨_, rfl, rfl⟩) rfl ?_)) | (with_reducible refine lst (by with_unfolding_all rfl) (wp_fbuild Tryd.underlying33 (z := .agg (List.toArray vl0)) (by kernel_rfl) (pl := vlP) (by kernel_rfl) (cs := vl0) rfl (vs := []) (by with_unfolding_all rfl) (by with_unfolding_all rfl) ?_)) | ((with_reducible refine lst (by with_unfolding_all rfl) (wp_fstA0 hF2 (by with_unfolding_all exact ⟨_, _, rfl, rfl, rfl⟩) (by rw [vlL_len]; kernel_rfl) vlL_one vlL_fit vlL_spl ?_)); intro w9 hF9 hz9))
          exact bodyPost_ret (results_cellF2 rfl _ hF9 (i := 0) rfl rfl Tryd.underlying33 rfl (by rw [vlL_len]; kernel_rfl)) rfl (by
            unfold FieldPost
            rw [hjf.out]
            exact ⟨_, rfl, null_rd _ _, hF9.below⟩)
      · go_wp2_with (first | (with_reducible refine lst (by with_unfolding_all rfl) (wp_fld1 hF2 Tryd.underlying24 rfl (by with_unfolding_all exact ⟨_, rfl, rfl⟩) rfl ?_)) | (with_reducible refine lst (by with_unfolding_all rfl) (wp_fld1 hF2 Tryd.underlying3 rfl (by with_unfolding_all exact ⟨_, rfl, rfl⟩) rfl ?_)) | (with_reducible refine lst (by with_unfolding_all rfl) (wp_fld1 hF2 Tryd.underlying31 rfl (by with_unfolding_all exact ⟨_, rfl, rfl⟩) rfl ?_)) | (with_reducible refine lst (by with_unfolding_all rfl) (wp_fbuild Tryd.underlying33 (z := .agg (List.toArray vl0)) (by kernel_rfl) (pl := vlP) (by kernel_rfl) (cs := vl0) rfl (vs := []) (by with_unfolding_all rfl) (by with_unfolding_all rfl) ?_)) | ((with_reducible refine lst (by with_unfolding_all rfl) (wp_fstA0 hF2 (by with_unfolding_all exact ⟨_, _, rfl, rfl, rfl⟩) (by rw [vlL_len]; kernel_rfl) vlL_one vlL_fit vlL_spl ?_)); intro w9 hF9 hz9))
        exact bodyPost_ret (results_cellF2 rfl _ hF9 (i := 0) rfl rfl Tryd.underlying33 rfl (by rw [vlL_len]; kernel_rfl)) rfl (by
          unfold FieldPost
          rw [hjf.out]
          exact ⟨_, rfl, null_rd _ _, hF9.below⟩)

end Go.Proofs.YtdekogmegdhjoaaDoor

namespace Go.Proofs.YtdekogmegdhjoaaDoor
open Go.RowKit
set_option linter.unusedSimpArgs false

theorem VT.rdF {v : JV} {cs : List Value} {es' es : List Ent} {X : List Nat} {w0 w : World} (h : VT v cs es') (hF : Fr X w0 w es) (hs : ∀ e ∈ es', e ∈ es) : VRd w (· < w.heap.size) v cs :=
  VT.rd v h fun e he => by
    obtain ⟨i, hi⟩ := List.mem_iff_getElem?.1 (hs e he)
    exact ⟨hF.holds i e hi, fun b hb => Ent.lt (hF.holds i e hi) hb⟩
/-- Write, within a frame; its text stands ahead of the other entries. -/
def WriteEndF (X : List Nat) (w0 : World) (es : List Ent) (r : List UInt8 × Nat) (e : Ending) (w' : World) : Prop :=
  ∃ A n c, e = .returned (.tuple #[.slice A n c, .int .i64 (r.2 : Int)]) ∧ n = r.1.length ∧ n ≤ c ∧ Fr X w0 w' (.rd A 1 n (r.1.map bv) :: es)
theorem write_F {X : List Nat} {w0 w : World} {es : List Ent} {B : Nat} (hF : Fr X w0 w es) (hL : LibsAt B w) (hB : B ≤ w.heap.size) {v : JV} {cs : List Value} (hv : VRd w (· < w.heap.size) v cs) (hsm : JSm v) (htx : JTx v) (hfl : 6 * (jFull v).length ≤ 140737480000000) :
    Calls Tryd.prog 21 #[.agg cs.toArray] w (WriteEndF X w0 es (jWrite v)) := by
  refine (write_any v cs w (hL.up hB) hv hsm htx hfl).mono ?_
  rintro e w' ⟨u, rfl, hF'⟩
  obtain ⟨A, c, rfl, hc, hr⟩ := (hF'.own (i := 0) rfl).arg
  have h1 := hF'.toRd (i := 0) rfl
  simp only [List.set_cons_zero] at h1
  exact ⟨A, _, c, rfl, rfl, hc, hF.join h1⟩
/-- The text of a value that is right. -/
theorem jWrite_right {v : JV} {x : Nat} (h : jRight 16 v 0 = some x) : jWrite v = if 65536 < (jFull v).length then ([], 8) else (jFull v, 0) := by
  unfold jWrite
  rw [h]
end Go.Proofs.YtdekogmegdhjoaaDoor

namespace Go.Proofs.YtdekogmegdhjoaaDoor
open Go.RowKit
set_option linter.unusedSimpArgs false

theorem fr_new {w w' : World} {e : Ent} {es : List Ent} (hF : Fr [] w w' (e :: es)) {b : Nat} (hb : e.block = some b) : w.heap.size ≤ b := by
  rcases hF.fresh 0 e rfl b hb with h | h
  · exact h
  · simp at h
set_option maxRecDepth 20000 in
set_option maxHeartbeats 12800000 in
theorem jsonFields_any (v : JV) (cs : List Value) (nm : List UInt8) (w : World) (hL : LibsAt w.heap.size w) (hv : VRd w (· < w.heap.size) v cs) (hw : jW v ≤ 1048576) :
    Calls Tryd.prog 5 #[.agg cs.toArray, .string ⟨nm.toArray⟩] w fun e w' => e = .returned (.bool true) ∧ Below w.heap.size w w' := by
  have hcl := box hv.len
  have hco := box (VRd.one hv)
  have hsm := jW_sm v hw
  have hsm1 := jW_sm _ (Nat.le_trans (jW_cut 4 v 300) hw)
  have hdp := jCutN_dep 4 v 300
  have hct := jCut_dep (D := 20) (by decide) hdp
  obtain ⟨u, hu⟩ : ∃ u, u = (jCutN 4 v 300).1 := ⟨_, rfl⟩
  rw [← hu] at hsm1 hdp hct
  have hxs := field_sm (nm := nm) hsm1
  have hxd := jCut_dep (D := 20) (by decide) (field_dep (nm := nm) hdp)
  obtain ⟨x, hx⟩ : ∃ x, x = (jField nm u).getD .null := ⟨_, rfl⟩
  rw [← hx] at hxs hxd
  replace hct := box hct
  replace hxd := box hxd
  replace hu := box hu
  replace hx := box hx
  replace hw := box hw
  replace hdp := box hdp
  have hF0 := Fr.nil w
  go_enter Tryd.func5, Tryd.ntmps5
  go_upto_region 2 with (first | ((with_reducible refine lst (by with_unfolding_all rfl) (wp_fbox hF0 (cs := cs) rfl (by with_unfolding_all rfl) (by with_unfolding_all rfl) ?_)); intro w1 g1 hF1 hz1) | ((with_reducible refine lst (by with_unfolding_all rfl) (wp_falloc hF1 (cs := [(.int .i64 0)]) (z := (.int .i64 0)) rfl (by kernel_rfl) (by with_unfolding_all rfl) ?_)); intro w2 g2 hF2 hz2) | ((with_reducible refine lst (by with_unfolding_all rfl) (wp_fst0 hF2 (by with_unfolding_all exact ⟨_, _, rfl, rfl, rfl⟩) (by kernel_rfl) rfl rfl (by first | decide | (simp; done) | (simp; omega)) (spl1' _ (.int .i64 ((300 : Nat) : Int))) ?_)); intro w3 hF3 hz3))
  have hg2 := fr_new hF3 rfl
  have hcu := box (cut_any 4 v cs w3 g2 300 w.heap.size (by decide) (by decide) (hv.onG hF3.below) hsm hg2 hF3.size (hF3.blk (i := 0) rfl))
  go_wp2_with (first | (with_reducible refine lst (by with_unfolding_all rfl) (wp_fldA1 hF3 Tryd.underlying33 rfl (by with_unfolding_all exact ⟨_, rfl, rfl⟩) (ds := cs) (by rw [hcl.out]; kernel_rfl) (take_all _) ?_)))
  refine hcu.out.mono ?_
  rintro e w4 ⟨cs1, es1, rfl, hvc, h4⟩
  have hF4 := hF3.putG (i := 0) rfl h4
  simp only [List.set_cons_zero, List.cons_append, List.nil_append] at hF4
  have hvc1 := hvc.keep (w' := w) (fun k hk => (hF3.below.block k hk).symm)
  rw [← hu.out] at hvc1
  have hvl1 := box hvc.len
  have hvo1 := box hvc.one
  replace hvc1 := box hvc1
  clear hcu h4 hvc hF0 hF1 hF2 hF3
  go_upto_region 3 with (first | ((with_reducible refine lst (by with_unfolding_all rfl) (wp_fstA1 hF4 (by with_unfolding_all exact ⟨_, _, rfl, rfl, rfl⟩) (by rw [hvl1.out]; kernel_rfl) hvo1.out (by rw [hvl1.out, hcl.out]; decide) (spl_all (by rw [hvl1.out, hcl.out])) ?_)); intro w5 hF5 hz5))
  have hrd5 := hvc1.out.rdF hF5 hF5.size hF5.below (by intro e he; simp [he])
  have hto := box (to_any 20 u cs1 w5 (by decide) hrd5 hsm1)
  go_wp2_with (first | (with_reducible refine lst (by with_unfolding_all rfl) (wp_fldA1 hF5 Tryd.underlying33 rfl (by with_unfolding_all exact ⟨_, rfl, rfl⟩) (ds := cs1) (by rw [hvl1.out]; kernel_rfl) (take_all _) ?_)))
  refine hto.out.mono ?_
  rintro e w6 ⟨cs2, es2, rfl, hvt2, h6⟩
  rw [hct.out] at hvt2
  have hF6 := hF5.joinR h6
  simp only [List.cons_append] at hF6
  have hb6 := hF6.below
  have hL6 := (hL.on hb6).up hb6.size
  have hv1 := hvc1.out.rdF hF6 hF6.size hF6.below (by intro e he; simp [he])
  have hv2 := hvt2.rdF hF6 (by intro e he; simp [he])
  have hr1 : Rd w6 (· < w6.heap.size) (some ⟨g1, 0, none⟩) 1 5 cs1 := hF6.rdBlk (i := 1) rfl hvl1.out (by rw [List.drop_zero, ← hvl1.out, List.take_length])
  clear hto h6 hF4 hF5 hF6 hvt2 hrd5 hL hvc1
  have hG6 := Fr.nil w6
  have hfi := box (field_any u cs2 nm w6 w6.heap.size (Nat.le_refl _) hv2 hsm1)
  go_wp2_with fail
  refine hfi.out.mono ?_
  rintro e w7 ⟨cs3, rfl, hv3, hb7⟩
  rw [← hx.out] at hv3
  have hG7 := hG6.call hb7
  have hvl3 := box hv3.len
  have hvo3 := box (VRd.one hv3)
  clear hfi hb7 hv2
  go_upto_region 4 with (first | ((with_reducible refine lst (by with_unfolding_all rfl) (wp_falloc hG7 (cs := vl0) (z := .agg (List.toArray (vl0))) rfl (by kernel_rfl) (by with_unfolding_all rfl) ?_)); intro w8 g8 hF8 hz8) | ((with_reducible refine lst (by with_unfolding_all rfl) (wp_fstA0 hF8 (by with_unfolding_all exact ⟨_, _, rfl, rfl, rfl⟩) (by rw [hvl3.out]; kernel_rfl) hvo3.out (by rw [hvl3.out]; decide) (spl_all (by rw [hvl3.out, vlL_len])) ?_)); intro w9 hF9 hz9))
  have hrf := box (rfield_any u cs1 nm w9 w6.heap.size hF9.size (hv1.onG hF9.below) hsm1)
  have hr1' := hr1.below hF9.below
  have hcc1 : (cs1.drop 0).take cs1.length = cs1 := by rw [List.drop_zero, List.take_length]
  replace hcc1 := box hcc1
  go_wp2_with (first | (with_reducible refine lst (by with_unfolding_all rfl) (wp_loadA hr1' Tryd.underlying33 rfl (by with_unfolding_all exact ⟨_, rfl, rfl⟩) (ds := cs1) (by rw [hvl1.out]; kernel_rfl) hcc1.out ?_)))
  refine hrf.out.mono ?_
  rintro e w10 ⟨cs4, rfl, hv4, hb10⟩
  rw [← hx.out] at hv4
  have hG10 := hF9.call hb10
  have hv4' := hv4.keep (fun _ h => h) (fun k hk => (hF9.below.block k hk).symm) x
  have hvl4 := box hv4.len
  have hvo4 := box (VRd.one hv4)
  clear hrf hb10 hv4 hr1'
  go_upto_region 5 with (first | ((with_reducible refine lst (by with_unfolding_all rfl) (wp_falloc hG10 (cs := vl0) (z := .agg (List.toArray (vl0))) rfl (by kernel_rfl) (by with_unfolding_all rfl) ?_)); intro w11 g11 hF11 hz11) | ((with_reducible refine lst (by with_unfolding_all rfl) (wp_fstA0 hF11 (by with_unfolding_all exact ⟨_, _, rfl, rfl, rfl⟩) (by rw [hvl4.out]; kernel_rfl) hvo4.out (by rw [hvl4.out]; decide) (spl_all (by rw [hvl4.out, vlL_len])) ?_)); intro w12 hF12 hz12))
  have hfr := box (fun (w' : World) (hb : Below w6.heap.size w6 w') => from_any 20 x cs3 w' (by decide) (hv3.on hb) hxs)
  replace hv4' := box hv4'
  replace hxs := box hxs
  have hFd := hF12.drew
  refine wp_region_held (S := fun w' => w'.heap[g11]? = some (.cells (List.toArray cs4) 33 (0, 0)) ∧ w'.heap[g8]? = some (.cells (List.toArray cs3) 27 (0, 0))) (by kernel_rfl) ?_
  change wpAnyH _ _ _ _ _ _ _ _ (World.drew _)
  refine rdy1 0 (fun K hK => ?_)
  refine stp (by with_unfolding_all rfl) (wp_call Tryd.func13 rfl (by with_unfolding_all rfl) (by with_unfolding_all rfl) (by with_unfolding_all rfl) (awake_any _ _ hFd.below.size (hL6.on hFd.below)) ?_)
  rintro e w31 ⟨rfl, hb31⟩
  refine ⟨_, rfl, ?_⟩
  have hF31 := hFd.call hb31
  refine hK.out _ _ (⟨hF31.blk (i := 0) rfl, hF31.blk (i := 1) rfl⟩) (fun _ => ?_)
  clear hK K
  (try simp only [Act.put, List.setIfInBounds_toArray, List.set_cons_zero, List.set_cons_succ])
  refine tkp 1 ⟨hF31.blk (i := 0) rfl, hF31.blk (i := 1) rfl⟩ ?_
  (try simp only [Act.put, List.setIfInBounds_toArray, List.set_cons_zero, List.set_cons_succ])
  refine tkp 2 ⟨hF31.blk (i := 0) rfl, hF31.blk (i := 1) rfl⟩ ?_
  (try simp only [Act.put, List.setIfInBounds_toArray, List.set_cons_zero, List.set_cons_succ])
  refine tkp 3 ⟨hF31.blk (i := 0) rfl, hF31.blk (i := 1) rfl⟩ ?_
  (try simp only [Act.put, List.setIfInBounds_toArray, List.set_cons_zero, List.set_cons_succ])
  refine tkp 4 ⟨hF31.blk (i := 0) rfl, hF31.blk (i := 1) rfl⟩ ?_
  (try simp only [Act.put, List.setIfInBounds_toArray, List.set_cons_zero, List.set_cons_succ])
  refine tkp 5 ⟨hF31.blk (i := 0) rfl, hF31.blk (i := 1) rfl⟩ ?_
  (try simp only [Act.put, List.setIfInBounds_toArray, List.set_cons_zero, List.set_cons_succ])
  refine tkp 6 ⟨hF31.blk (i := 0) rfl, hF31.blk (i := 1) rfl⟩ ?_
  (try simp only [Act.put, List.setIfInBounds_toArray, List.set_cons_zero, List.set_cons_succ])
  refine tky 7 (y := yi_fldA (by with_unfolding_all rfl) (fun _ h => h.2) Tryd.underlying27 rfl (by with_unfolding_all exact ⟨_, rfl, rfl⟩) (ds := cs3) (by rw [hvl3.out]; kernel_rfl) (take_all _)) (s := ⟨hF31.blk (i := 0) rfl, hF31.blk (i := 1) rfl⟩) (h := ?_)
  (try simp only [Act.put, List.setIfInBounds_toArray, List.set_cons_zero, List.set_cons_succ])
  refine tky 9 (y := yi_fldA (by with_unfolding_all rfl) (fun _ h => h.1) Tryd.underlying33 rfl (by with_unfolding_all exact ⟨_, rfl, rfl⟩) (ds := cs4) (by rw [hvl4.out]; kernel_rfl) (take_all _)) (s := ⟨hF31.blk (i := 0) rfl, hF31.blk (i := 1) rfl⟩) (h := ?_)
  (try simp only [Act.put, List.setIfInBounds_toArray, List.set_cons_zero, List.set_cons_succ])
  refine rdy1 8 (fun K hK => ?_)
  refine stp (by with_unfolding_all rfl) (wp_call Tryd.func15 rfl (by with_unfolding_all rfl) (by with_unfolding_all rfl) (by with_unfolding_all rfl) (hfr.out _ hF31.below) ?_)
  rintro e w32 ⟨cs32, es32, rfl, hvt32, hv32⟩
  refine ⟨_, rfl, ?_⟩
  have hF32 := hF31.joinR hv32
  simp only [List.cons_append, List.nil_append] at hF32
  rw [hxd.out] at hvt32
  refine hK.out _ _ (⟨hF32.blk (i := 0) rfl, hF32.blk (i := 1) rfl⟩) (fun _ => ?_)
  clear hK K
  (try simp only [Act.put, List.setIfInBounds_toArray, List.set_cons_zero, List.set_cons_succ])
  refine rdy1 10 (fun K hK => ?_)
  refine stp (by with_unfolding_all rfl) (wp_call Tryd.func14 rfl (by with_unfolding_all rfl) (by with_unfolding_all rfl) (by with_unfolding_all rfl) (same_any _ x _ _ _ (Nat.le_refl _) (hvt32.rdF hF32 (by intro e he; simp [he])) (hv4'.out.on hF32.below) hxs.out) ?_)
  rintro e w33 ⟨rfl, hb33⟩
  refine ⟨_, rfl, ?_⟩
  have hF33 := hF32.call hb33
  refine hK.out _ _ (⟨hF33.blk (i := 0) rfl, hF33.blk (i := 1) rfl⟩) (fun _ => ?_)
  clear hK K
  (try simp only [Act.put, List.setIfInBounds_toArray, List.set_cons_zero, List.set_cons_succ])
  refine tkp 11 ⟨hF33.blk (i := 0) rfl, hF33.blk (i := 1) rfl⟩ ?_
  (try simp only [Act.put, List.setIfInBounds_toArray, List.set_cons_zero, List.set_cons_succ])
  refine tkp 12 ⟨hF33.blk (i := 0) rfl, hF33.blk (i := 1) rfl⟩ ?_
  (try simp only [Act.put, List.setIfInBounds_toArray, List.set_cons_zero, List.set_cons_succ])
  refine wpAnyH_done (by kernel_rfl) ?_ _
  go_wp2_with fail
  go_ret
  exact ⟨rfl, hb6.trans (hF33.below.mono hb6.size)⟩
/-- .. at any text. -/
theorem jsonFields_str (v : JV) (cs : List Value) (s : ByteArray) (w : World) (hL : LibsAt w.heap.size w) (hv : VRd w (· < w.heap.size) v cs) (hw : jW v ≤ 1048576) :
    Calls Tryd.prog 5 #[.agg cs.toArray, .string s] w fun e w' => e = .returned (.bool true) ∧ Below w.heap.size w w' := by
  obtain ⟨⟨l⟩⟩ := s
  exact jsonFields_any v cs l w hL hv hw
end Go.Proofs.YtdekogmegdhjoaaDoor

namespace Go.Proofs.YtdekogmegdhjoaaDoor
open Go.RowKit
set_option linter.unusedSimpArgs false

theorem jWrite_len {u : JV} {l : List UInt8} {f : Nat} (h : jWrite u = (l, f)) : l.length ≤ 65536 ∧ (f ≠ 0 → l = []) ∧ f ≤ 8 := by
  unfold jWrite at h
  split at h
  · injection h with h1 h2; subst h1 h2; exact ⟨by simp, fun _ => rfl, by omega⟩
  · split at h
    · injection h with h1 h2; subst h1 h2; exact ⟨by simp, fun _ => rfl, by omega⟩
    · injection h with h1 h2; subst h1 h2; exact ⟨by omega, fun h => absurd rfl h, by omega⟩
set_option maxRecDepth 20000 in
set_option maxHeartbeats 12800000 in
theorem jsonBack_any (v : JV) (cs : List Value) (w : World) (hL : LibsAt w.heap.size w) (hv : VRd w (· < w.heap.size) v cs) (hw : jW v ≤ 1048576) (hji : JI v) :
    Calls Tryd.prog 7 #[.agg cs.toArray] w fun e w' => e = .returned (.bool true) ∧ Below w.heap.size w w' := by
  have hwu := box (Nat.le_trans (jW_cut 20 v 5000) hw)
  have hcl := box hv.len
  have hco := box (VRd.one hv)
  have hsm := jW_sm v hw
  have hw1 := Nat.le_trans (jW_cut 20 v 5000) hw
  have hsm1 := jW_sm _ hw1
  have htx1 := jW_tx _ hw1
  have htot1 := jTot_w (jCutN 20 v 5000).1
  have hfl1 := jW_full _ (JI_cut 20 v 5000 hji)
  have hdp := jCutN_dep 20 v 5000
  have hct := jCut_dep (D := 20) (by decide) hdp
  obtain ⟨u, hu⟩ : ∃ u, u = (jCutN 20 v 5000).1 := ⟨_, rfl⟩
  rw [← hu] at hsm1 hdp hct htx1 hw1 htot1 hfl1
  have htot : jTot u ≤ 10000000 := by omega
  have hfl : 6 * (jFull u).length ≤ 140737480000000 := by omega
  clear htot1 hfl1 hw1
  replace hct := box hct
  replace hu := box hu
  replace hw := box hw
  replace hdp := box hdp
  replace hfl := box hfl
  replace htot := box htot
  replace hji := box hji
  have hF0 := Fr.nil w
  go_enter Tryd.func7, Tryd.ntmps7
  go_upto_region 2 with (first | ((with_reducible refine lst (by with_unfolding_all rfl) (wp_fbox hF0 (cs := cs) rfl (by with_unfolding_all rfl) (by with_unfolding_all rfl) ?_)); intro w1 g1 hF1 hz1) | ((with_reducible refine lst (by with_unfolding_all rfl) (wp_falloc hF1 (cs := [(.int .i64 0)]) (z := (.int .i64 0)) rfl (by kernel_rfl) (by with_unfolding_all rfl) ?_)); intro w2 g2 hF2 hz2) | ((with_reducible refine lst (by with_unfolding_all rfl) (wp_fst0 hF2 (by with_unfolding_all exact ⟨_, _, rfl, rfl, rfl⟩) (by kernel_rfl) rfl rfl (by first | decide | (simp; done) | (simp; omega)) (spl1' _ (.int .i64 ((5000 : Nat) : Int))) ?_)); intro w3 hF3 hz3))
  have hg2 := fr_new hF3 rfl
  have hcu := box (cut_any 20 v cs w3 g2 5000 w.heap.size (by decide) (by decide) (hv.onG hF3.below) hsm hg2 hF3.size (hF3.blk (i := 0) rfl))
  go_wp2_with (first | (with_reducible refine lst (by with_unfolding_all rfl) (wp_fldA1 hF3 Tryd.underlying33 rfl (by with_unfolding_all exact ⟨_, rfl, rfl⟩) (ds := cs) (by rw [hcl.out]; kernel_rfl) (take_all _) ?_)))
  refine hcu.out.mono ?_
  rintro e w4 ⟨cs1, es1, rfl, hvc, h4⟩
  have hF4 := hF3.putG (i := 0) rfl h4
  simp only [List.set_cons_zero, List.cons_append, List.nil_append] at hF4
  have hvc1 := hvc.keep (w' := w) (fun k hk => (hF3.below.block k hk).symm)
  rw [← hu.out] at hvc1
  have hvl1 := box hvc.len
  have hvo1 := box hvc.one
  replace hvc1 := box hvc1
  clear hcu h4 hvc hF0 hF1 hF2 hF3
  go_upto_region 3 with (first | ((with_reducible refine lst (by with_unfolding_all rfl) (wp_fstA1 hF4 (by with_unfolding_all exact ⟨_, _, rfl, rfl, rfl⟩) (by rw [hvl1.out]; kernel_rfl) hvo1.out (by rw [hvl1.out, hcl.out]; decide) (spl_all (by rw [hvl1.out, hcl.out])) ?_)); intro w5 hF5 hz5))
  have hrd5 := hvc1.out.rdF hF5 hF5.size hF5.below (by intro e he; simp [he])
  have hto := box (to_any 20 u cs1 w5 (by decide) hrd5 hsm1)
  go_wp2_with (first | (with_reducible refine lst (by with_unfolding_all rfl) (wp_fldA1 hF5 Tryd.underlying33 rfl (by with_unfolding_all exact ⟨_, rfl, rfl⟩) (ds := cs1) (by rw [hvl1.out]; kernel_rfl) (take_all _) ?_)))
  refine hto.out.mono ?_
  rintro e w6 ⟨cs2, es2, rfl, hvt2, h6⟩
  rw [hct.out] at hvt2
  have hF6 := hF5.joinR h6
  simp only [List.cons_append] at hF6
  have hb6 := hF6.below
  have hL6 := (hL.on hb6).up hb6.size
  have hv1 := hvc1.out.rdF hF6 hF6.size hF6.below (by intro e he; simp [he])
  have hv2 := hvt2.rdF hF6 (by intro e he; simp [he])
  have hr1 : Rd w6 (· < w6.heap.size) (some ⟨g1, 0, none⟩) 1 5 cs1 := hF6.rdBlk (i := 1) rfl hvl1.out (by rw [List.drop_zero, ← hvl1.out, List.take_length])
  clear hto h6 hF4 hF5 hF6 hvt2 hrd5 hL hvc1
  have hG6 := Fr.nil w6
  have hwr := box (write_F hG6 hL6 (Nat.le_refl _) hv2 hsm1 htx1 hfl.out)
  go_wp2_with fail
  refine hwr.out.mono ?_
  rintro e w7 ⟨A7, n7, c7, rfl, hn7, hc7, hG7⟩
  clear hwr hG6 hv2
  have hcc1 : (cs1.drop 0).take cs1.length = cs1 := by rw [List.drop_zero, List.take_length]
  replace hcc1 := box hcc1

  rw [← hu.out] at hwu
  obtain ⟨⟨l, f⟩, hR⟩ : ∃ R, R = jWrite u := ⟨_, rfl⟩
  rw [← hR] at hn7 hG7
  rw [← hR]
  simp only [] at hn7 hG7
  obtain ⟨hln, hf0, hf8⟩ := jWrite_len hR.symm
  have hn65 : n7 ≤ 65536 := by omega
  replace hn7 := box hn7
  replace hR := box hR
  go_upto_region 4 with fail
  have haw := box (awake_any w7 w6.heap.size hG7.below.size (hL6.on hG7.below))
  go_wp2_with fail
  refine haw.out.mono ?_
  rintro e w8 ⟨rfl, hb8⟩
  have hG8 := hG7.call hb8
  clear haw hb8
  by_cases hf : f = 0
  · subst hf
    obtain ⟨hpl, hgd, hcb⟩ := jBack hwu.out hR.out.symm
    have hbs := hgd.sm _
    obtain ⟨bu, hbu⟩ : ∃ b, b = jBare u := ⟨_, rfl⟩
    rw [← hbu] at hpl hcb hbs
    replace hgd := box hgd
    replace hcb := box hcb
    clear hf0 hf8 hln
    go_upto_region 6 with fail
    have hp := parse_F hG8 (hL6.on hG8.below) hG8.below.size hc7 (by omega) (hG8.rd (i := 0) rfl)
    rw [hpl] at hp
    unfold ParseEndF at hp
    simp only [] at hp
    replace hp := box hp
    clear hpl
    go_wp2_with fail
    refine hp.out.mono ?_
    rintro e w9 ⟨cs3, es3, rfl, hvt3, hG9⟩
    have hvl3 := box hvt3.len
    have hvo3 := box hvt3.one
    replace hvt3 := box hvt3
    clear hp hG8 hG7
    go_upto_region 7 with (first | ((with_reducible refine lst (by with_unfolding_all rfl) (wp_falloc hG9 (cs := vl0) (z := .agg (List.toArray (vl0))) rfl (by kernel_rfl) (by with_unfolding_all rfl) ?_)); intro w10 g10 hF10 hz10) | ((with_reducible refine lst (by with_unfolding_all rfl) (wp_fstA0 hF10 (by with_unfolding_all exact ⟨_, _, rfl, rfl, rfl⟩) (by rw [hvl3.out]; kernel_rfl) hvo3.out (by rw [hvl3.out]; decide) (spl_all (by rw [hvl3.out, vlL_len])) ?_)); intro w11 hF11 hz11))
    clear hG9 hF10
    have hfr := box (fun (w' : World) (es' : List Ent) (hF : Fr [] w6 w' es') (hs : ∀ e ∈ es3, e ∈ es') => from_any 20 bu cs3 w' (by decide) (hvt3.out.rdF hF hs) hbs)
    have hba := box (fun (w' : World) (hb : Below w6.heap.size w6 w') => rbare_any (SizeOf.sizeOf u) u cs1 w' (Nat.le_refl _) (hv1.on hb) hsm1)
    rw [← hbu] at hba
    have hbs' := box hbs
    replace hbu := box hbu
    clear hbs
    have hFd := hF11.drew
    refine wp_region_held (S := fun w' => w'.heap[g10]? = some (.cells (List.toArray cs3) 27 (0, 0)) ∧ Rd w' (· < w6.heap.size) (some ⟨g1, 0, none⟩) 1 5 cs1) (by kernel_rfl) ?_
    change wpAnyH _ _ _ _ _ _ _ _ (World.drew _)
    refine tkp 0 ⟨hFd.blk (i := 0) rfl, hr1.below hFd.below⟩ ?_
    (try simp only [Act.put, List.setIfInBounds_toArray, List.set_cons_zero, List.set_cons_succ])
    refine tkp 1 ⟨hFd.blk (i := 0) rfl, hr1.below hFd.below⟩ ?_
    (try simp only [Act.put, List.setIfInBounds_toArray, List.set_cons_zero, List.set_cons_succ])
    refine tkp 2 ⟨hFd.blk (i := 0) rfl, hr1.below hFd.below⟩ ?_
    (try simp only [Act.put, List.setIfInBounds_toArray, List.set_cons_zero, List.set_cons_succ])
    refine tkp 3 ⟨hFd.blk (i := 0) rfl, hr1.below hFd.below⟩ ?_
    (try simp only [Act.put, List.setIfInBounds_toArray, List.set_cons_zero, List.set_cons_succ])
    refine tkp 4 ⟨hFd.blk (i := 0) rfl, hr1.below hFd.below⟩ ?_
    (try simp only [Act.put, List.setIfInBounds_toArray, List.set_cons_zero, List.set_cons_succ])
    refine tkp 5 ⟨hFd.blk (i := 0) rfl, hr1.below hFd.below⟩ ?_
    (try simp only [Act.put, List.setIfInBounds_toArray, List.set_cons_zero, List.set_cons_succ])
    refine tkp 6 ⟨hFd.blk (i := 0) rfl, hr1.below hFd.below⟩ ?_
    (try simp only [Act.put, List.setIfInBounds_toArray, List.set_cons_zero, List.set_cons_succ])
    refine tky 7 (y := yi_fldA (by with_unfolding_all rfl) (fun _ h => h.1) Tryd.underlying27 rfl (by with_unfolding_all exact ⟨_, rfl, rfl⟩) (ds := cs3) (by rw [hvl3.out]; kernel_rfl) (take_all _)) (s := ⟨hFd.blk (i := 0) rfl, hr1.below hFd.below⟩) (h := ?_)
    (try simp only [Act.put, List.setIfInBounds_toArray, List.set_cons_zero, List.set_cons_succ])
    refine tky 9 (y := yi_ldA (by with_unfolding_all rfl) (fun _ h => h.2) (j := 0) Tryd.underlying33 rfl (by with_unfolding_all exact ⟨_, rfl, rfl⟩) (ds := cs1) (by rw [hvl1.out]; kernel_rfl) hcc1.out) (s := ⟨hFd.blk (i := 0) rfl, hr1.below hFd.below⟩) (h := ?_)
    (try simp only [Act.put, List.setIfInBounds_toArray, List.set_cons_zero, List.set_cons_succ])
    refine rdy1 8 (fun K hK => ?_)
    refine stp (by with_unfolding_all rfl) (wp_call Tryd.func15 rfl (by with_unfolding_all rfl) (by with_unfolding_all rfl) (by with_unfolding_all rfl) (hfr.out _ _ hFd (by intro e he; simp [he])) ?_)
    rintro e w31 ⟨cs31, es31, rfl, hvt31, hv31⟩
    refine ⟨_, rfl, ?_⟩
    have hF31 := hFd.joinR hv31
    simp only [List.cons_append] at hF31
    rw [hcb.out] at hvt31
    refine hK.out _ _ (⟨hF31.blk (i := 0) rfl, hr1.below hF31.below⟩) (fun _ => ?_)
    clear hK K
    (try simp only [Act.put, List.setIfInBounds_toArray, List.set_cons_zero, List.set_cons_succ])
    refine rdy1 10 (fun K hK => ?_)
    refine stp (by with_unfolding_all rfl) (wp_call Tryd.func23 rfl (by with_unfolding_all rfl) (by with_unfolding_all rfl) (by with_unfolding_all rfl) (hba.out _ hF31.below) ?_)
    rintro e w32 ⟨cs32, es32, rfl, hvt32, hv32⟩
    refine ⟨_, rfl, ?_⟩
    have hF32 := hF31.joinR hv32
    simp only [List.cons_append] at hF32
    refine hK.out _ _ (⟨hF32.blk (i := 0) rfl, hr1.below hF32.below⟩) (fun _ => ?_)
    clear hK K
    (try simp only [Act.put, List.setIfInBounds_toArray, List.set_cons_zero, List.set_cons_succ])
    refine rdy1 11 (fun K hK => ?_)
    refine stp (by with_unfolding_all rfl) (wp_call Tryd.func14 rfl (by with_unfolding_all rfl) (by with_unfolding_all rfl) (by with_unfolding_all rfl) (same_any _ bu _ _ _ (Nat.le_refl _) (hvt31.rdF hF32 (by intro e he; simp [he])) (hvt32.rdF hF32 (by intro e he; simp [he])) hbs'.out) ?_)
    rintro e w33 ⟨rfl, hb33⟩
    refine ⟨_, rfl, ?_⟩
    have hF33 := hF32.call hb33
    refine hK.out _ _ (⟨hF33.blk (i := 0) rfl, hr1.below hF33.below⟩) (fun _ => ?_)
    clear hK K
    (try simp only [Act.put, List.setIfInBounds_toArray, List.set_cons_zero, List.set_cons_succ])
    refine tkp 12 ⟨hF33.blk (i := 0) rfl, hr1.below hF33.below⟩ ?_
    (try simp only [Act.put, List.setIfInBounds_toArray, List.set_cons_zero, List.set_cons_succ])
    refine tkp 13 ⟨hF33.blk (i := 0) rfl, hr1.below hF33.below⟩ ?_
    (try simp only [Act.put, List.setIfInBounds_toArray, List.set_cons_zero, List.set_cons_succ])
    refine wpAnyH_done (by kernel_rfl) ?_ _
    go_wp2_with fail
    go_ret
    exact ⟨rfl, hb6.trans (hF33.below.mono hb6.size)⟩
  · have hl0 := hf0 hf
    subst hl0
    have hne : ((f : Int) != 0) = true := by rw [bne_iff_ne]; omega
    have hn0 : n7 = 0 := hn7.out
    subst hn0
    replace hf := box hf
    clear hf0 hln
    go_upto_region 5 with fail
    have haw := box (awake_any w8 w6.heap.size hG8.below.size (hL6.on hG8.below))
    go_wp2_with fail
    refine haw.out.mono ?_
    rintro e w9 ⟨rfl, hb9⟩
    have hG9 := hG8.call hb9
    go_wp2_with fail
    go_ret
    exact ⟨rfl, hb6.trans (hG9.below.mono hb6.size)⟩
end Go.Proofs.YtdekogmegdhjoaaDoor

namespace Go.Proofs.YtdekogmegdhjoaaDoor
open Go.RowKit
set_option linter.unusedSimpArgs false

/-- A sign of a text, by its place. -/
theorem run_sidx {P : Program} {t : TypeId} (ht : P.underlying t = some .string) {s : ByteArray} {kd : IntKind} {j : Int} {k : Nat} {c : UInt8} (hj : j = (k : Int)) (hc : s.data.toList[k]? = some c) (w : World) : (Instr.index t (.string s) (.int kd j)).run P w = .ok (.int .u8 (c.toNat : Int)) w := by
  subst hj
  have hk : k < s.data.toList.length := (List.getElem?_eq_some_iff.1 hc).1
  have hk2 : k < s.size := by rw [← str_len s]; exact hk
  have he : s[k]'hk2 = c := by
    have := (List.getElem?_eq_some_iff.1 hc).2
    rw [← this]
    rfl
  rw [run_index_string w t s kd _ ht, dif_pos ⟨by omega, by omega⟩]
  simp only [Int.toNat_natCast, he]
theorem wp_sidx {P : Program} {o : Oper} {a : Act} {w : World} {K : Act → World → Prop} {Q : Exit → Act → World → Prop} {t : TypeId} (ht : P.underlying t = some .string) {s : ByteArray} {j : Int} {k : Nat} {c : UInt8} (hj : j = (k : Int)) (hc : s.data.toList[k]? = some c)
    (ho : ∃ x i kd, o.op = .index t x i ∧ a.eval x = .string s ∧ a.eval i = .int kd j) (hK : K (a.put o.dst (.int .u8 (c.toNat : Int))) w) : o.wp P a w K Q := by
  obtain ⟨x, i, kd, ho, hx, hi⟩ := ho
  refine wp_run (v := .int .u8 (c.toNat : Int)) (w' := w) ?_ hK
  unfold execOp
  simp [ho, hx, hi, run_sidx ht hj hc]
theorem yi_sidx {P : Program} {S : World → Prop} {ops : Array Oper} {o : Oper} {a : Act} (hw : Region.wanted o (yielded ops a.tmps) = true) {t : TypeId} (ht : P.underlying t = some .string) {s : ByteArray} {j : Int} {k : Nat} {c : UInt8} (hj : j = (k : Int)) (hc : s.data.toList[k]? = some c)
    (ho : ∃ x i kd, o.op = .index t x i ∧ a.eval x = .string s ∧ a.eval i = .int kd j) : YieldsIf P ops S o (.int .u8 (c.toNat : Int)) a := by
  obtain ⟨x, i, kd, ho, hx, hi⟩ := ho
  refine .inl ⟨hw, fun w _ => ?_⟩
  unfold execOp
  simp [ho, hx, hi, run_sidx ht hj hc]
end Go.Proofs.YtdekogmegdhjoaaDoor

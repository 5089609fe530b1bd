/-
 Layer 8: the document's edges, walked.
 Layer 6: an object's members; the document's Field, walked.
-/
import Derived.Test.YtlhicfpmlncomaaGreatDoorH12
import Derived.Test.YtlhicfpmlncomaaGreatDoorH02
import Derived.Test.YtlhicfpmlncomaaGreatDoorH09
namespace Go.Proofs.YtlhicfpmlncomaaGreatDoor
open Go.RowKit
set_option linter.unusedSimpArgs false
set_option linter.unusedVariables false
theorem mdStep_ne {d : MDesc} {h : MHad} {n : List UInt8} {k : JV} {e : Nat} (hs : mdStep d h n k = .error e) : e ≠ 0 := by
 unfold mdStep at hs
 split at hs
 ·cases hm : mMedia k with
  | error e2 => rw [hm] at hs; injection hs with hs; subst hs; exact mMedia_ne hm
  | ok t => rw [hm] at hs; cases hs
 ·split at hs
  ·split at hs
   ·cases hm : dgP k.text with
    | none => rw [hm] at hs; injection hs with hs; omega
    | some x => rw [hm] at hs; cases hs
   ·injection hs with hs; omega
  ·split at hs
   ·split at hs
    ·split at hs
     ·injection hs with hs; omega
     ·cases hs
    ·injection hs with hs; omega
   ·split at hs
    ·cases hm : mNotes k with
     | error e2 => rw [hm] at hs; injection hs with hs; subst hs; exact mNotes_ne hm
     | ok t => rw [hm] at hs; cases hs
    ·injection hs with hs; omega
theorem mDescL_ne : ∀ {ns : List (List UInt8)} {ks : List JV} {d : MDesc} {h : MHad} {e : Nat}, mDescL d h ns ks = .error e → e ≠ 0
 | [], _, d, h, e, hs => by
  rw [mDescL] at hs
  ·split at hs
   ·cases hs
   ·injection hs with hs; omega
  ·intros; rename_i h1 h2; cases h1
 | _ :: _, [], d, h, e, hs => by
  rw [mDescL] at hs
  ·split at hs
   ·cases hs
   ·injection hs with hs; omega
  ·intros; rename_i h1 h2; cases h2
 | n :: ns, k :: ks, d, h, e, hs => by
  rw [mDescL] at hs
  cases hm : mdStep d h n k with
  | error e2 => rw [hm] at hs; injection hs with hs; subst hs; exact mdStep_ne hm
  | ok x => rw [hm] at hs; exact mDescL_ne hs
theorem mDesc_ne {v : JV} {e : Nat} (h : mDesc v = .error e) : e ≠ 0 := by
 unfold mDesc at h
 split at h
 ·exact mDescL_ne h
 ·injection h with h; omega
theorem mEdgesL_ne : ∀ {ks : List JV} {e : Nat}, mEdgesL ks = .error e → e ≠ 0
 | [], e, h => by rw [mEdgesL] at h; cases h
 | k :: ks, e, h => by
  rw [mEdgesL] at h
  cases hm : mDesc k with
  | error e2 => rw [hm] at h; injection h with h; subst h; exact mDesc_ne hm
  | ok d =>
   rw [hm] at h
   simp only [] at h
   cases hl : mEdgesL ks with
   | error e2 => rw [hl] at h; injection h with h; subst h; exact mEdgesL_ne hl
   | ok l => rw [hl] at h; cases h
theorem mEdges_ne {v : JV} {e : Nat} (h : mEdges v = .error e) : e ≠ 0 := by
 unfold mEdges at h
 split at h
 ·split at h
  ·injection h with h; omega
  ·exact mEdgesL_ne h
 ·injection h with h; omega
theorem T_rdesc17 : SlT Tryz.prog 38 37 35 80 (.agg ds0.toArray) := ⟨Tryz.underlying38, by kernel_rfl, by kernel_rfl, by decide⟩
/-- Descriptors are told by the document, or a number. -/
def REdg (w : World) (r : MR (List MDesc)) (e : Ending) (w' : World) : Prop := ∃ eg es, e = .returned (.tuple #[eg, .int .i64 (mCode r : Int)]) ∧ VE (mLst r) eg es ∧ Fr [] w w' es
set_option maxRecDepth 20000 in
set_option maxHeartbeats 6400000 in
theorem redges_any (v : JV) (cs : List Value) (w : World) (hv : VRd w (· < w.heap.size) v cs) (hob : JOb v) :
  Calls Tryz.prog 43 #[.agg cs.toArray] w (REdg w (mEdges v)) := by
 obtain ⟨k, n, t, ns, ks⟩ := v
 rw [VRd] at hv
 obtain ⟨An, nn, cn, Ak, nk, ck, xs, hcn, hck, rfl, hrn, hrk, hvk⟩ := hv
 have hF0 := Fr.nil w
 have hkl := hvk.len
 rw [hrk.len] at hkl
 have hnk : nk = ks.length := by omega
 have hkob := box (fun u hu => hob.kid (k := u) hu)
 simp only [JV.kids] at hkob
 by_cases hk : k = 5
 rotate_left
 ·have hj : Box (mEdges (.mk k n t ns ks) = .error 80) := box (if_neg hk)
  have hq : ((k : Int) != 5) = true := by rw [bne_iff_ne]; exact hk
  replace hk := box hk
  clear hob hkl hnk
  go_enter Tryz.func43, Tryz.ntmps43
  go_wp2_with (first | ((with_reducible refine lst (by with_unfolding_all rfl) (wp_fbox hF0 (cs := (vlL k n ⟨t.toArray⟩ (.slice An nn cn) (.slice Ak nk ck))) rfl (by with_unfolding_all rfl) (by with_unfolding_all rfl) ?_)); intro w1 g1 hF1 hz1) | (with_reducible refine lst (by with_unfolding_all rfl) (wp_fld0 hF1 Tryz.underlying3 rfl (by with_unfolding_all exact ⟨_, rfl, rfl⟩) rfl ?_)))
  go_ret2
  unfold REdg
  rw [hj.out]
  exact ⟨_, _, rfl, VE.nil, hF1⟩
 have hq : ((k : Int) != 5) = false := by rw [hk]; rfl
 by_cases hbig : 64 < nk
 ·have hj : Box (mEdges (.mk k n t ns ks) = .error 8) := box ((if_pos hk).trans (if_pos (show 64 < ks.length by omega)))
  have hd : decide ((64 : Int) < (nk : Int)) = true := decide_eq_true (by omega)
  replace hk := box hk
  clear hob hkl hnk
  go_enter Tryz.func43, Tryz.ntmps43
  go_wp2_with (first | ((with_reducible refine lst (by with_unfolding_all rfl) (wp_fbox hF0 (cs := (vlL k n ⟨t.toArray⟩ (.slice An nn cn) (.slice Ak nk ck))) rfl (by with_unfolding_all rfl) (by with_unfolding_all rfl) ?_)); intro w1 g1 hF1 hz1) | (with_reducible refine lst (by with_unfolding_all rfl) (wp_fld0 hF1 Tryz.underlying3 rfl (by with_unfolding_all exact ⟨_, rfl, rfl⟩) rfl ?_)) | (with_reducible refine lst (by with_unfolding_all rfl) (wp_fld0 hF1 Tryz.underlying49 rfl (by with_unfolding_all exact ⟨_, rfl, rfl⟩) rfl ?_)))
  go_ret2
  unfold REdg
  rw [hj.out]
  exact ⟨_, _, rfl, VE.nil, hF1⟩
 have hd : decide ((64 : Int) < (nk : Int)) = false := decide_eq_false (by omega)
 obtain ⟨J, hJ0⟩ : ∃ J, J = mEdges (.mk k n t ns ks) := ⟨_, rfl⟩
 have hJ : Box (J = mApp [] (mEdgesL (ks.drop 0))) := box (by
  rw [hJ0, List.drop_zero]
  refine ((if_pos hk).trans (if_neg (show ¬ 64 < ks.length by omega))).trans ?_
  show mEdgesL ks = _
  cases mEdgesL ks <;> rfl)
 rw [← hJ0]
 replace hk := box hk
 replace hnk := box hnk
 replace hvk := box hvk
 clear hkl hJ0 hob
 go_enter Tryz.func43, Tryz.ntmps43
 go_wp2_with (first | ((with_reducible refine lst (by with_unfolding_all rfl) (wp_fbox hF0 (cs := (vlL k n ⟨t.toArray⟩ (.slice An nn cn) (.slice Ak nk ck))) rfl (by with_unfolding_all rfl) (by with_unfolding_all rfl) ?_)); intro w1 g1 hF1 hz1) | (with_reducible refine lst (by with_unfolding_all rfl) (wp_fld0 hF1 Tryz.underlying3 rfl (by with_unfolding_all exact ⟨_, rfl, rfl⟩) rfl ?_)) | (with_reducible refine lst (by with_unfolding_all rfl) (wp_fld0 hF1 Tryz.underlying49 rfl (by with_unfolding_all exact ⟨_, rfl, rfl⟩) rfl ?_)))
 have hF2 := hF1.none_ w.heap.size 37 35
 clear hF0 hF1
 go_loopg [4, 5] nk (fun g ov iv wr => ∃ (i : Nat) (out : List MDesc) (A : Option Addr) (c : Nat) (zs : List Value) (TE : List Ent), i ≤ nk ∧ Box (g = nk - i) ∧ iv = .int .i64 (i : Int) ∧ ov = .slice A i c ∧ i ≤ c ∧ Box (out.length = i) ∧ Box (VDL out zs TE) ∧ Box (J = mApp out (mEdgesL (ks.drop i))) ∧ Fr [] w wr (.own w.heap.size 37 35 (.slice A i c) i zs :: .blk g1 51 (vlL k n ⟨t.toArray⟩ (.slice An nn cn) (.slice Ak nk ck)) :: TE))
 case atStart => exact ⟨0, [], none, 0, [], [], by omega, box rfl, rfl, rfl, by omega, box rfl, box rfl, hJ, hF2⟩
 case round =>
  clear hF2 hJ
  obtain ⟨i, out, A, c, zs, TE, hi, hgi, rfl, rfl, hic, hol, hT, hJ, hF⟩ := hrel
  have hkk : Box (_ = nk - i) := hgi
  clear hgi
  have hrk' := hrk.below hF.below
  by_cases hlt : i < nk
  ·obtain ⟨u, hu⟩ : ∃ u, ks[i]? = some u := ⟨ks[i]'(by rw [← hnk.out]; exact hlt), by simp⟩
   obtain ⟨ci, hci, hvi⟩ := hvk.out.at hu
   have hstep := mEdgesL_go hu
   have hcil := box hvi.len
   have hcio := box (VRd.ones hvi)
   have hub := hkob.out u (List.mem_of_getElem? hu)
   have htx := box (fun w' hb => rdesc_any u ci w' (hvi.on (w' := w') hb) hub)
   have hJ' := hJ.out
   rw [hstep] at hJ'
   replace hci := box hci
   clear hu hstep hJ hvi hub
   cases hm : mDesc u with
   | ok d =>
    rw [hm] at hJ' htx
    simp only [] at hJ'
    rw [mApp_app] at hJ'
    replace hJ' := box hJ'
    clear hm
    go_wp2_with (first | (with_reducible refine lst (by with_unfolding_all rfl) (wp_fld1 hF Tryz.underlying49 rfl (by with_unfolding_all exact ⟨_, rfl, rfl⟩) rfl ?_)) | (with_reducible refine lst (by with_unfolding_all rfl) (wp_indexAddr T_rvals hrk' (by with_unfolding_all exact ⟨_, _, _, _, rfl, rfl, rfl⟩) (by omega) (by omega) ?_)) | (with_reducible refine lst (by with_unfolding_all rfl) (wp_loadA hrk' Tryz.underlying51 rfl (by with_unfolding_all exact ⟨_, rfl, rfl⟩) (ds := ci) (by rw [hcil.out]; kernel_rfl) (by rw [hcil.out]; with_unfolding_all exact hci.out) ?_)))
    refine (htx.out _ hF.below).mono ?_
    rintro e w4 ⟨cs4, es4, rfl, hvd, hn4⟩
    have hF4 := hF.joinR hn4
    simp only [List.cons_append] at hF4
    have hvd2 : VD d cs4 es4 := hvd
    have hdl := box hvd2.len
    have hdo := box hvd2.ones
    have hT2 := box (VDL.snoc (hT.out.mono (es' := TE ++ es4) (fun _ h => List.mem_append_left _ h)) (hvd2.mono (fun _ h => List.mem_append_right _ h)))
    simp only [mCode]
    clear hvd hvd2 hn4 htx
    go_wp2_with (first | ((with_reducible refine lst (by with_unfolding_all rfl) (wp_falloc hF4 (cs := ds0) (z := .agg (List.toArray (ds0))) rfl (by kernel_rfl) (by with_unfolding_all rfl) ?_)); intro w5 g5 hF5 hz5) | ((with_reducible refine lst (by with_unfolding_all rfl) (wp_fstA0 hF5 (by with_unfolding_all exact ⟨_, _, rfl, rfl, rfl⟩) (by rw [hdl.out]; kernel_rfl) hdo.out (by rw [hdl.out, ds0_len]; decide) (spl_all (by rw [hdl.out, ds0_len])) ?_)); intro w6 hF6 hz6) | (with_reducible refine lst (by with_unfolding_all rfl) (wp_fldA0 hF6 Tryz.underlying37 rfl (by with_unfolding_all exact ⟨_, rfl, rfl⟩) (ds := cs4) (by rw [hdl.out]; kernel_rfl) (take_all _) ?_)) | ((with_reducible refine lst (by with_unfolding_all rfl) (wp_fbs1 T_rdesc17 hF6 (by with_unfolding_all rfl) (ds := cs4) (by with_unfolding_all rfl) hdl.out (by decide) ?_)); intro w7 g7 hF7 hz7) | ((with_reducible refine lst (by with_unfolding_all rfl) (wp_fappG T_rdesc17 hF7 (i := 2) rfl (Nat.le_refl _) (hF7.rdOwn (i := 0) rfl) hdo.out (by with_unfolding_all exact ⟨_, _, rfl, rfl, rfl⟩) (by unfold maxLen; omega) (by omega) ?_)); intro v8 w8 hF8 hz8; simp only [List.set_cons_zero, List.set_cons_succ] at hF8; obtain ⟨A8, c8, rfl, hc8⟩ := hF8.ownParts (i := 2) rfl))
    go_roundg (nk - (i + 1))
    case rel => exact ⟨i + 1, out ++ [d], A8, c8, zs ++ cs4, TE ++ es4, by omega, box rfl, by go_num, rfl, hc8, box (by rw [List.length_append, hol.out]; rfl), hT2, hJ', hF8.tail.tail⟩
    case measure => have := hkk.out; omega
   | error ee =>
    have hne := mDesc_ne hm
    have hnq : ((ee : Int) != 0) = true := by rw [bne_iff_ne]; omega
    rw [hm] at hJ' htx
    simp only [] at hJ'
    replace hJ' := box hJ'
    replace hne := box hne
    clear hm
    go_wp2_with (first | (with_reducible refine lst (by with_unfolding_all rfl) (wp_fld1 hF Tryz.underlying49 rfl (by with_unfolding_all exact ⟨_, rfl, rfl⟩) rfl ?_)) | (with_reducible refine lst (by with_unfolding_all rfl) (wp_indexAddr T_rvals hrk' (by with_unfolding_all exact ⟨_, _, _, _, rfl, rfl, rfl⟩) (by omega) (by omega) ?_)) | (with_reducible refine lst (by with_unfolding_all rfl) (wp_loadA hrk' Tryz.underlying51 rfl (by with_unfolding_all exact ⟨_, rfl, rfl⟩) (ds := ci) (by rw [hcil.out]; kernel_rfl) (by rw [hcil.out]; with_unfolding_all exact hci.out) ?_)))
    refine (htx.out _ hF.below).mono ?_
    rintro e w4 ⟨cs4, es4, rfl, hvd, hn4⟩
    have hF4 := hF.joinR hn4
    simp only [List.cons_append] at hF4
    have hdl := box hvd.len
    have hdo := box hvd.ones
    simp only [mCode]
    clear hvd hn4 htx
    go_wp2_with (first | ((with_reducible refine lst (by with_unfolding_all rfl) (wp_falloc hF4 (cs := ds0) (z := .agg (List.toArray (ds0))) rfl (by kernel_rfl) (by with_unfolding_all rfl) ?_)); intro w5 g5 hF5 hz5) | ((with_reducible refine lst (by with_unfolding_all rfl) (wp_fstA0 hF5 (by with_unfolding_all exact ⟨_, _, rfl, rfl, rfl⟩) (by rw [hdl.out]; kernel_rfl) hdo.out (by rw [hdl.out, ds0_len]; decide) (spl_all (by rw [hdl.out, ds0_len])) ?_)); intro w6 hF6 hz6))
    go_ret2
    unfold REdg
    rw [hJ'.out]
    exact ⟨_, _, rfl, VE.nil, hF6⟩
  ·have hend : Box (J = .ok out) := box (by rw [hJ.out, mEdgesL_end (by rw [← hnk.out]; omega)]; simp [mApp])
   obtain rfl : nk = i := by omega
   go_wp2_with (first | (with_reducible refine lst (by with_unfolding_all rfl) (wp_fld1 hF Tryz.underlying49 rfl (by with_unfolding_all exact ⟨_, rfl, rfl⟩) rfl ?_)))
   go_ret2
   unfold REdg
   rw [hend.out]
   have hF3 := hF.toRd (i := 0) rfl
   exact ⟨_, _, rfl, ⟨A, nk, c, zs, hic, hol.out.symm, rfl, hT.out.mono (fun _ h => by simp [h]), .inr (by simp)⟩, hF3⟩
end Go.Proofs.YtlhicfpmlncomaaGreatDoor

namespace Go.Proofs.YtlhicfpmlncomaaGreatDoor
open Go.RowKit
set_option linter.unusedSimpArgs false
set_option linter.unusedVariables false
def jFieldL (nm : List UInt8) : List (List UInt8) → List JV → Option JV
 | s :: ns, v :: ks => if s = nm then some v else jFieldL nm ns ks
 | _, _ => none
/-- A member of an object. -/
def jField (nm : List UInt8) : JV → Option JV
 | .mk k _ _ ns ks => if k = 6 then jFieldL nm ns ks else none
theorem jFieldL_here {nm : List UInt8} {ns : List (List UInt8)} {ks : List JV} {i : Nat} {v : JV} (hs : ns[i]? = some nm) (hv : ks[i]? = some v) : jFieldL nm (ns.drop i) (ks.drop i) = some v := by
 rw [List.drop_eq_getElem_cons (List.getElem?_eq_some_iff.1 hv).1, (List.getElem?_eq_some_iff.1 hv).2, List.drop_eq_getElem_cons (List.getElem?_eq_some_iff.1 hs).1, (List.getElem?_eq_some_iff.1 hs).2, jFieldL, if_pos rfl]
theorem jFieldL_out {nm : List UInt8} {ns : List (List UInt8)} {ks : List JV} {i : Nat} (h : ns.length ≤ i ∨ ks.length ≤ i) : jFieldL nm (ns.drop i) (ks.drop i) = none := by
 rcases h with h | h
 ·rw [List.drop_of_length_le h, jFieldL]; rintro _ _ _ _ h; cases h
 ·rw [List.drop_of_length_le h, jFieldL]; rintro _ _ _ _ _ h; cases h
theorem jFieldL_next {nm s : List UInt8} {ns : List (List UInt8)} {ks : List JV} {i : Nat} (hs : ns[i]? = some s) (h : s ≠ nm ∨ ks.length ≤ i) : jFieldL nm (ns.drop i) (ks.drop i) = jFieldL nm (ns.drop (i + 1)) (ks.drop (i + 1)) := by
 rcases Nat.lt_or_ge i ks.length with hi | hi
 ·have hv : ks[i]? = some ks[i] := List.getElem?_eq_getElem hi
  rw [List.drop_eq_getElem_cons hi, List.drop_eq_getElem_cons (List.getElem?_eq_some_iff.1 hs).1, (List.getElem?_eq_some_iff.1 hs).2, jFieldL, if_neg (h.resolve_right (by omega))]
 ·rw [jFieldL_out (.inr hi), jFieldL_out (.inr (by omega))]
/-- What the two programs' Field tells. -/
def FieldPost (w : World) (B : Nat) (nm : List UInt8) (v : JV) (e : Ending) (w' : World) : Prop :=
 ∃ cs', e = .returned (.tuple #[.agg cs'.toArray, .bool (jField nm v).isSome]) ∧ VRd w (· < B) ((jField nm v).getD .null) cs' ∧ Below w.heap.size w w'
theorem null_rd (w : World) (S : Nat → Prop) : VRd w S .null vl0 := by
 unfold JV.null
 rw [VRd]
 refine ⟨none, 0, 0, none, 0, 0, [], Nat.le_refl _, Nat.le_refl _, rfl, Rd.nil _ _ _ _, Rd.nil _ _ _ _, by rw [VRdL]⟩
set_option maxRecDepth 20000 in
set_option maxHeartbeats 6400000 in
theorem rfield_any (v : JV) (cs : List Value) (nm : List UInt8) (w : World) (B : Nat) (hB : B ≤ w.heap.size) (hv : VRd w (· < B) v cs) (hsm : JSm v) :
  Calls Tryz.prog 45 #[.agg cs.toArray, .string ⟨nm.toArray⟩] w (FieldPost w B nm v) := by
 obtain ⟨k, n, t, ns, ks⟩ := v
 rw [VRd] at hv
 obtain ⟨An, nn, cn, Ak, nk, ck, xk, hcn, hck, rfl, hrn, hrk, hvk⟩ := hv
 rw [JSm] at hsm
 obtain ⟨hs1, hs2, hs3⟩ := hsm
 have hnn : ns.length = nn := by have := hrn.len; simpa using this
 have hnk : ks.length = nk := by have := hrk.len; rw [hvk.len] at this; omega
 rw [hnn] at hs1
 rw [hnk] at hs2
 replace hnn := box hnn
 replace hnk := box hnk
 replace hvk := box hvk
 have hF0 := Fr.nil w
 by_cases hk6 : k = 6
 ·have d6 : (k == 6) = true := by rw [beq_iff_eq]; exact hk6
  have hjf0 : Box (jField nm (.mk k n t ns ks) = jFieldL nm ns ks) := box (by rw [jField, if_pos hk6])
  replace hk6 := box hk6
  go_enter Tryz.func45, Tryz.ntmps45
  go_wp2_with (first | ((with_reducible refine lst (by with_unfolding_all rfl) (wp_fbox hF0 (cs := (vlL k n ⟨t.toArray⟩ (.slice An nn cn) (.slice Ak nk ck))) rfl (by with_unfolding_all rfl) (by with_unfolding_all rfl) ?_)); intro w1 g1 hF1 hz1) | ((with_reducible refine lst (by with_unfolding_all rfl) (wp_falloc hF1 (cs := vl0) (z := .agg (List.toArray (vl0))) rfl (by kernel_rfl) (by with_unfolding_all rfl) ?_)); intro w2 g2 hF2 hz2))
  clear hF0 hF1
  go_loopg [6] nn (fun gk s wr => ∃ i : Nat, i ≤ nn ∧ Box (gk = nn - i) ∧ s = .int .i64 (i : Int) ∧ Box (jFieldL nm ns ks = jFieldL nm (ns.drop i) (ks.drop i)) ∧ Fr [] w wr [.blk g2 51 vl0, .blk g1 51 (vlL k n ⟨t.toArray⟩ (.slice An nn cn) (.slice Ak nk ck))])
  case atStart => exact ⟨0, by omega, box rfl, rfl, box (by simp), hF2⟩
  case round =>
   clear hF2
   obtain ⟨i, hi, hk, rfl, hJ, hF⟩ := hrel
   have hrn' := hrn.below (hF.below.mono hB)
   have hrk' := hrk.below (hF.below.mono hB)
   by_cases hlt : i < nn
   ·obtain ⟨s, hs⟩ : ∃ s, ns[i]? = some s := ⟨ns[i]'(by rw [hnn.out]; exact hlt), by simp⟩
    have hss : Box ((ns.map strv)[i]? = some (.string ⟨s.toArray⟩)) := box (by rw [List.getElem?_map, hs]; rfl)
    by_cases hik : i < nk
    ·by_cases hst : s = nm
     ·subst hst
      obtain ⟨vi, hvi⟩ : ∃ vi, ks[i]? = some vi := ⟨ks[i]'(by rw [hnk.out]; exact hik), by simp⟩
      obtain ⟨ci, hci, hvri⟩ := hvk.out.at hvi
      have hcil := box hvri.len
      have hcio := box (VRd.ones hvri)
      replace hci := box hci
      replace hvri := box hvri
      have hjf : Box (jField s (.mk k n t ns ks) = some vi) := box (by rw [hjf0.out, hJ.out]; exact jFieldL_here hs hvi)
      replace hs := box hs
      replace hvi := box hvi
      go_wp2_with (first | (with_reducible refine lst (by with_unfolding_all rfl) (wp_fld1 hF Tryz.underlying48 rfl (by with_unfolding_all exact ⟨_, rfl, rfl⟩) rfl ?_)) | (with_reducible refine lst (by with_unfolding_all rfl) (wp_fld1 hF Tryz.underlying3 rfl (by with_unfolding_all exact ⟨_, rfl, rfl⟩) rfl ?_)) | (with_reducible refine lst (by with_unfolding_all rfl) (wp_fld1 hF Tryz.underlying49 rfl (by with_unfolding_all exact ⟨_, rfl, rfl⟩) rfl ?_)) | (with_reducible refine lst (by with_unfolding_all rfl) (wp_indexAddr T_strs hrn' (by with_unfolding_all exact ⟨_, _, _, _, rfl, rfl, rfl⟩) (by omega) (by omega) ?_)) | (with_reducible refine lst (by with_unfolding_all rfl) (wp_load1C hrn' hss Tryz.underlying9 rfl (by with_unfolding_all exact ⟨_, rfl, rfl⟩) (by first | (simp; done) | (simp; omega) | omega) ?_)) | (with_reducible refine lst (by with_unfolding_all rfl) (wp_indexAddr T_rvals hrk' (by with_unfolding_all exact ⟨_, _, _, _, rfl, rfl, rfl⟩) (by omega) (by omega) ?_)) | (with_reducible refine lst (by with_unfolding_all rfl) (wp_loadA hrk' Tryz.underlying51 rfl (by with_unfolding_all exact ⟨_, rfl, rfl⟩) (ds := ci) (by rw [hcil.out]; kernel_rfl) (by rw [hcil.out]; with_unfolding_all exact hci.out) ?_)) | ((with_reducible refine lst (by with_unfolding_all rfl) (wp_fstA0 hF (by with_unfolding_all exact ⟨_, _, rfl, rfl, rfl⟩) (by rw [hcil.out]; kernel_rfl) hcio.out (by rw [hcil.out, vlL_len]; decide) (spl_all (by rw [hcil.out, vlL_len])) ?_)); intro w9 hF9 hz9))
      exact bodyPost_ret (results_cellF2 rfl _ hF9 (i := 0) rfl rfl Tryz.underlying51 rfl (by rw [hcil.out]; kernel_rfl)) rfl (by
       unfold FieldPost
       rw [hjf.out]
       exact ⟨_, rfl, hvri.out, hF9.below⟩)
     ·have hst2 : (s == nm) = false := by rw [beq_eq_false_iff_ne]; exact hst
      have hJ2 : Box (jFieldL nm ns ks = jFieldL nm (ns.drop (i + 1)) (ks.drop (i + 1))) := box (hJ.out.trans (jFieldL_next hs (.inl hst)))
      replace hst := box hst
      replace hs := box hs
      go_wp2_with (first | (with_reducible refine lst (by with_unfolding_all rfl) (wp_fld1 hF Tryz.underlying48 rfl (by with_unfolding_all exact ⟨_, rfl, rfl⟩) rfl ?_)) | (with_reducible refine lst (by with_unfolding_all rfl) (wp_fld1 hF Tryz.underlying3 rfl (by with_unfolding_all exact ⟨_, rfl, rfl⟩) rfl ?_)) | (with_reducible refine lst (by with_unfolding_all rfl) (wp_fld1 hF Tryz.underlying49 rfl (by with_unfolding_all exact ⟨_, rfl, rfl⟩) rfl ?_)) | (with_reducible refine lst (by with_unfolding_all rfl) (wp_indexAddr T_strs hrn' (by with_unfolding_all exact ⟨_, _, _, _, rfl, rfl, rfl⟩) (by omega) (by omega) ?_)) | (with_reducible refine lst (by with_unfolding_all rfl) (wp_load1C hrn' hss Tryz.underlying9 rfl (by with_unfolding_all exact ⟨_, rfl, rfl⟩) (by first | (simp; done) | (simp; omega) | omega) ?_)))
      go_roundg (nn - (i + 1))
      case rel => exact ⟨i + 1, by omega, box rfl, by go_num, hJ2, hF⟩
      case measure => have := hk.out; omega
    ·have hjf : Box (jField nm (.mk k n t ns ks) = none) := box (by rw [hjf0.out, hJ.out]; exact jFieldL_out (.inr (by rw [hnk.out]; omega)))
     replace hs := box hs
     go_wp2_with (first | (with_reducible refine lst (by with_unfolding_all rfl) (wp_fld1 hF Tryz.underlying48 rfl (by with_unfolding_all exact ⟨_, rfl, rfl⟩) rfl ?_)) | (with_reducible refine lst (by with_unfolding_all rfl) (wp_fld1 hF Tryz.underlying3 rfl (by with_unfolding_all exact ⟨_, rfl, rfl⟩) rfl ?_)) | (with_reducible refine lst (by with_unfolding_all rfl) (wp_fld1 hF Tryz.underlying49 rfl (by with_unfolding_all exact ⟨_, rfl, rfl⟩) rfl ?_)) | (with_reducible refine lst (by with_unfolding_all rfl) (wp_fbuild Tryz.underlying51 (z := .agg (List.toArray vl0)) (by kernel_rfl) (pl := vlP) (by kernel_rfl) (cs := vl0) rfl (vs := []) (by with_unfolding_all rfl) (by with_unfolding_all rfl) ?_)) | ((with_reducible refine lst (by with_unfolding_all rfl) (wp_fstA0 hF (by with_unfolding_all exact ⟨_, _, rfl, rfl, rfl⟩) (by rw [vlL_len]; kernel_rfl) vlL_one vlL_fit vlL_spl ?_)); intro w9 hF9 hz9))
     exact bodyPost_ret (results_cellF2 rfl _ hF9 (i := 0) rfl rfl Tryz.underlying51 rfl (by rw [vlL_len]; kernel_rfl)) rfl (by
      unfold FieldPost
      rw [hjf.out]
      exact ⟨_, rfl, null_rd _ _, hF9.below⟩)
   ·have hjf : Box (jField nm (.mk k n t ns ks) = none) := box (by rw [hjf0.out, hJ.out]; exact jFieldL_out (.inl (by rw [hnn.out]; omega)))
    go_wp2_with (first | (with_reducible refine lst (by with_unfolding_all rfl) (wp_fld1 hF Tryz.underlying48 rfl (by with_unfolding_all exact ⟨_, rfl, rfl⟩) rfl ?_)) | (with_reducible refine lst (by with_unfolding_all rfl) (wp_fld1 hF Tryz.underlying49 rfl (by with_unfolding_all exact ⟨_, rfl, rfl⟩) rfl ?_)) | (with_reducible refine lst (by with_unfolding_all rfl) (wp_fbuild Tryz.underlying51 (z := .agg (List.toArray vl0)) (by kernel_rfl) (pl := vlP) (by kernel_rfl) (cs := vl0) rfl (vs := []) (by with_unfolding_all rfl) (by with_unfolding_all rfl) ?_)) | ((with_reducible refine lst (by with_unfolding_all rfl) (wp_fstA0 hF (by with_unfolding_all exact ⟨_, _, rfl, rfl, rfl⟩) (by rw [vlL_len]; kernel_rfl) vlL_one vlL_fit vlL_spl ?_)); intro w9 hF9 hz9))
    exact bodyPost_ret (results_cellF2 rfl _ hF9 (i := 0) rfl rfl Tryz.underlying51 rfl (by rw [vlL_len]; kernel_rfl)) rfl (by
     unfold FieldPost
     rw [hjf.out]
     exact ⟨_, rfl, null_rd _ _, hF9.below⟩)
 ·have d6 : (k == 6) = false := by rw [beq_eq_false_iff_ne]; exact hk6
  have hjf : Box (jField nm (.mk k n t ns ks) = none) := box (by rw [jField, if_neg hk6])
  replace hk6 := box hk6
  go_enter Tryz.func45, Tryz.ntmps45
  go_wp2_with (first | ((with_reducible refine lst (by with_unfolding_all rfl) (wp_fbox hF0 (cs := (vlL k n ⟨t.toArray⟩ (.slice An nn cn) (.slice Ak nk ck))) rfl (by with_unfolding_all rfl) (by with_unfolding_all rfl) ?_)); intro w1 g1 hF1 hz1) | ((with_reducible refine lst (by with_unfolding_all rfl) (wp_falloc hF1 (cs := vl0) (z := .agg (List.toArray (vl0))) rfl (by kernel_rfl) (by with_unfolding_all rfl) ?_)); intro w2 g2 hF2 hz2))
  go_loopg [6] nn (fun gk s wr => s = .int .i64 0 ∧ wr = w2)
  case atStart => exact ⟨rfl, rfl⟩
  case round =>
   obtain ⟨rfl, rfl⟩ := hrel
   by_cases hlt : 0 < nn
   ·by_cases hik : 0 < nk
    ·go_wp2_with (first | (with_reducible refine lst (by with_unfolding_all rfl) (wp_fld1 hF2 Tryz.underlying48 rfl (by with_unfolding_all exact ⟨_, rfl, rfl⟩) rfl ?_)) | (with_reducible refine lst (by with_unfolding_all rfl) (wp_fld1 hF2 Tryz.underlying3 rfl (by with_unfolding_all exact ⟨_, rfl, rfl⟩) rfl ?_)) | (with_reducible refine lst (by with_unfolding_all rfl) (wp_fld1 hF2 Tryz.underlying49 rfl (by with_unfolding_all exact ⟨_, rfl, rfl⟩) rfl ?_)) | (with_reducible refine lst (by with_unfolding_all rfl) (wp_fbuild Tryz.underlying51 (z := .agg (List.toArray vl0)) (by kernel_rfl) (pl := vlP) (by kernel_rfl) (cs := vl0) rfl (vs := []) (by with_unfolding_all rfl) (by with_unfolding_all rfl) ?_)) | ((with_reducible refine lst (by with_unfolding_all rfl) (wp_fstA0 hF2 (by with_unfolding_all exact ⟨_, _, rfl, rfl, rfl⟩) (by rw [vlL_len]; kernel_rfl) vlL_one vlL_fit vlL_spl ?_)); intro w9 hF9 hz9))
     exact bodyPost_ret (results_cellF2 rfl _ hF9 (i := 0) rfl rfl Tryz.underlying51 rfl (by rw [vlL_len]; kernel_rfl)) rfl (by
      unfold FieldPost
      rw [hjf.out]
      exact ⟨_, rfl, null_rd _ _, hF9.below⟩)
    ·go_wp2_with (first | (with_reducible refine lst (by with_unfolding_all rfl) (wp_fld1 hF2 Tryz.underlying48 rfl (by with_unfolding_all exact ⟨_, rfl, rfl⟩) rfl ?_)) | (with_reducible refine lst (by with_unfolding_all rfl) (wp_fld1 hF2 Tryz.underlying3 rfl (by with_unfolding_all exact ⟨_, rfl, rfl⟩) rfl ?_)) | (with_reducible refine lst (by with_unfolding_all rfl) (wp_fld1 hF2 Tryz.underlying49 rfl (by with_unfolding_all exact ⟨_, rfl, rfl⟩) rfl ?_)) | (with_reducible refine lst (by with_unfolding_all rfl) (wp_fbuild Tryz.underlying51 (z := .agg (List.toArray vl0)) (by kernel_rfl) (pl := vlP) (by kernel_rfl) (cs := vl0) rfl (vs := []) (by with_unfolding_all rfl) (by with_unfolding_all rfl) ?_)) | ((with_reducible refine lst (by with_unfolding_all rfl) (wp_fstA0 hF2 (by with_unfolding_all exact ⟨_, _, rfl, rfl, rfl⟩) (by rw [vlL_len]; kernel_rfl) vlL_one vlL_fit vlL_spl ?_)); intro w9 hF9 hz9))
     exact bodyPost_ret (results_cellF2 rfl _ hF9 (i := 0) rfl rfl Tryz.underlying51 rfl (by rw [vlL_len]; kernel_rfl)) rfl (by
      unfold FieldPost
      rw [hjf.out]
      exact ⟨_, rfl, null_rd _ _, hF9.below⟩)
   ·go_wp2_with (first | (with_reducible refine lst (by with_unfolding_all rfl) (wp_fld1 hF2 Tryz.underlying48 rfl (by with_unfolding_all exact ⟨_, rfl, rfl⟩) rfl ?_)) | (with_reducible refine lst (by with_unfolding_all rfl) (wp_fld1 hF2 Tryz.underlying3 rfl (by with_unfolding_all exact ⟨_, rfl, rfl⟩) rfl ?_)) | (with_reducible refine lst (by with_unfolding_all rfl) (wp_fld1 hF2 Tryz.underlying49 rfl (by with_unfolding_all exact ⟨_, rfl, rfl⟩) rfl ?_)) | (with_reducible refine lst (by with_unfolding_all rfl) (wp_fbuild Tryz.underlying51 (z := .agg (List.toArray vl0)) (by kernel_rfl) (pl := vlP) (by kernel_rfl) (cs := vl0) rfl (vs := []) (by with_unfolding_all rfl) (by with_unfolding_all rfl) ?_)) | ((with_reducible refine lst (by with_unfolding_all rfl) (wp_fstA0 hF2 (by with_unfolding_all exact ⟨_, _, rfl, rfl, rfl⟩) (by rw [vlL_len]; kernel_rfl) vlL_one vlL_fit vlL_spl ?_)); intro w9 hF9 hz9))
    exact bodyPost_ret (results_cellF2 rfl _ hF9 (i := 0) rfl rfl Tryz.underlying51 rfl (by rw [vlL_len]; kernel_rfl)) rfl (by
     unfold FieldPost
     rw [hjf.out]
     exact ⟨_, rfl, null_rd _ _, hF9.below⟩)
end Go.Proofs.YtlhicfpmlncomaaGreatDoor

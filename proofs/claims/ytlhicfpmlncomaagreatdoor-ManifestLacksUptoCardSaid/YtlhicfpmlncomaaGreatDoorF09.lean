/-
 Layer 8: the program's text, media, notes, walked.
 Walks of layer 1: digits.
 Walks of layer 1: bytes as digits.
 Walks of layer 1: digits as bytes, the document's answer.
 Layer 7: the walks of a sum's text, both texts of the program.
 Layer 8: the program's desc, walked.
-/
import Derived.Test.YtlhicfpmlncomaaGreatDoorF08
import Derived.Test.YtlhicfpmlncomaaGreatDoorF02
import Derived.Test.YtlhicfpmlncomaaGreatDoorF01
import Derived.Deep.QuietTactic
import Derived.BigQuiet
import Derived.Deep.RegionLaw
import Derived.Test.YtlhicfpmlncomaaGreatDoorF00
set_option linter.unusedSimpArgs false
set_option linter.unusedVariables false
namespace Go.Proofs.YtlhicfpmlncomaaGreatDoor
open Go.RowKit
def mErr {α : Type} (r : MR α) : Value := match r with
 | .ok _ => .nilIface
 | .error e => .iface 84 (.agg #[.int .i64 (e : Int)])
def mStr (r : MR (List UInt8)) : List UInt8 := match r with
 | .ok s => s
 | .error _ => []
def mLst {α : Type} (r : MR (List α)) : List α := match r with
 | .ok l => l
 | .error _ => []
def mApp {α : Type} (out : List α) (r : MR (List α)) : MR (List α) := match r with
 | .ok l => .ok (out ++ l)
 | .error e => .error e
theorem mNotesL_go {ns : List (List UInt8)} {ks : List JV} {i : Nat} {s : List UInt8} {k : JV} (hs : ns[i]? = some s) (hk : ks[i]? = some k) : mNotesL (ns.drop i) (ks.drop i) = if k.kind = 4 then mApp [⟨s, k.text⟩] (mNotesL (ns.drop (i + 1)) (ks.drop (i + 1))) else .error 80 := by
 rw [List.drop_eq_getElem_cons (List.getElem?_eq_some_iff.1 hs).1, (List.getElem?_eq_some_iff.1 hs).2, List.drop_eq_getElem_cons (List.getElem?_eq_some_iff.1 hk).1, (List.getElem?_eq_some_iff.1 hk).2, mNotesL]
 split
 ·cases mNotesL (ns.drop (i + 1)) (ks.drop (i + 1)) <;> rfl
 ·rfl
theorem mNotesL_end {ns : List (List UInt8)} {ks : List JV} {i : Nat} (hk : ks.length ≤ i) : mNotesL (ns.drop i) (ks.drop i) = .ok [] := by
 rw [List.drop_of_length_le hk]
 cases ns.drop i <;> rfl
theorem mApp_app {α : Type} (a b : List α) (r : MR (List α)) : mApp a (mApp b r) = mApp (a ++ b) r := by
 cases r with
 | ok l => simp [mApp]
 | error e => rfl
theorem T_notes : SlT Tryz.prog 26 70 2 32 (.agg #[.string ⟨#[]⟩, .string ⟨#[]⟩]) := ⟨uq26, by kernel_rfl, rfl, by decide⟩
abbrev nt0 : List Value := [.string ⟨#[]⟩, .string ⟨#[]⟩]
def ntP : List (Nat × Nat) := [(0, 1), (1, 1)]
set_option maxRecDepth 20000 in
set_option maxHeartbeats 1600000 in
theorem mtext_any (v : JV) (cs : List Value) (w : World) (S : Nat → Prop) (hv : VRd w S v cs) :
  Calls Tryz.prog 90 #[.agg cs.toArray] w fun e w' => e = .returned (.tuple #[strv (mStr (mText v)), mErr (mText v)]) ∧ Below w.heap.size w w' := by
 obtain ⟨k, n, t, ns, ks⟩ := v
 have hv0 := hv
 rw [VRd] at hv
 obtain ⟨An, nn, cn, Ak, nk, ck, xs, hcn, hck, rfl, hrn, hrk, hvk⟩ := hv
 have hF0 := Fr.nil w
 by_cases hk : k = 4
 ·have hj : Box (mText (.mk k n t ns ks) = .ok t) := box (if_pos hk)
  have hq : ((k : Int) != 4) = false := by rw [hk]; rfl
  replace hk := box hk
  go_enter Tryz.func90, Tryz.ntmps90
  go_wp2_with (first | ((with_reducible refine lsx (wp_fbox hF0 (cs := (vlL k n ⟨t.toArray⟩ (.slice An nn cn) (.slice Ak nk ck))) rfl (by with_unfolding_all rfl) (by with_unfolding_all rfl) ?_)); intro w1 g1 hF1 hz1) | (with_reducible refine lsx (wp_fld0 hF1 uq3 rfl (by with_unfolding_all exact ⟨_, rfl, rfl⟩) rfl ?_)) | (with_reducible refine lsx (wp_fld0 hF1 uq9 rfl (by with_unfolding_all exact ⟨_, rfl, rfl⟩) rfl ?_)))
  go_ret2
  rw [hj.out]
  exact ⟨rfl, hF1.below⟩
 ·have hj : Box (mText (.mk k n t ns ks) = .error 80) := box (if_neg hk)
  have hq : ((k : Int) != 4) = true := by rw [bne_iff_ne]; exact hk
  replace hk := box hk
  go_enter Tryz.func90, Tryz.ntmps90
  go_wp2_with (first | ((with_reducible refine lsx (wp_fbox hF0 (cs := (vlL k n ⟨t.toArray⟩ (.slice An nn cn) (.slice Ak nk ck))) rfl (by with_unfolding_all rfl) (by with_unfolding_all rfl) ?_)); intro w1 g1 hF1 hz1) | (with_reducible refine lsx (wp_fld0 hF1 uq3 rfl (by with_unfolding_all exact ⟨_, rfl, rfl⟩) rfl ?_)) | (with_reducible refine lsx (wp_fld0 hF1 uq9 rfl (by with_unfolding_all exact ⟨_, rfl, rfl⟩) rfl ?_)))
  go_ret2
  rw [hj.out]
  exact ⟨rfl, hF1.below⟩
set_option maxRecDepth 20000 in
set_option maxHeartbeats 1600000 in
theorem mmedia_any (v : JV) (cs : List Value) (w : World) (hM : MaxW w) (hv : VRd w (· < w.heap.size) v cs) (hsz : v.text.length ≤ 1048576) :
  Calls Tryz.prog 91 #[.agg cs.toArray] w fun e w' => e = .returned (.tuple #[strv (mStr (mMedia v)), mErr (mMedia v)]) ∧ Below w.heap.size w w' := by
 obtain ⟨k, n, t, ns, ks⟩ := v
 have hv0 := hv
 rw [VRd] at hv
 obtain ⟨An, nn, cn, Ak, nk, ck, xs, hcn, hck, rfl, hrn, hrk, hvk⟩ := hv
 have hF0 := Fr.nil w
 replace hsz : t.length ≤ 1048576 := hsz
 have htx := box (fun w' hb => mtext_any (.mk k n t ns ks) _ w' _ (hv0.on (w' := w') hb))
 by_cases hk : k = 4
 ·have hj : mText (.mk k n t ns ks) = .ok t := if_pos hk
  have hjm : Box (mMedia (.mk k n t ns ks) = if mediaB t = true then .ok t else .error 72) := box (if_pos hk)
  rw [hj] at htx
  have hmd := box (fun w' hM' => media_any ⟨t.toArray⟩ w' hM' (by rw [← str_len]; exact Nat.lt_of_le_of_lt hsz (by decide)))
  clear hj hk hsz
  cases hB : mediaB t with
  | true =>
   rw [hB, if_pos rfl] at hjm
   go_enter Tryz.func91, Tryz.ntmps91
   go_wp2_with (first | ((with_reducible refine lsx (wp_fbox hF0 (cs := (vlL k n ⟨t.toArray⟩ (.slice An nn cn) (.slice Ak nk ck))) rfl (by with_unfolding_all rfl) (by with_unfolding_all rfl) ?_)); intro w1 g1 hF1 hz1) | (with_reducible refine lsx (wp_fldA0 hF1 uq76 rfl (by with_unfolding_all exact ⟨_, rfl, rfl⟩) (ds := (vlL k n ⟨t.toArray⟩ (.slice An nn cn) (.slice Ak nk ck))) (by rw [vlL_len]; kernel_rfl) (take_all _) ?_)))
   refine (htx.out _ hF1.below).mono ?_
   rintro e w2 ⟨rfl, hb2⟩
   have hF2 := hF1.call hb2
   unfold mStr mErr
   go_wp2_with fail
   refine (hmd.out _ (hM.on hF2.below)).mono ?_
   rintro e w3 ⟨rfl, hb3⟩
   have hF3 := hF2.call hb3
   rw [show mediaB (⟨t.toArray⟩ : ByteArray).data.toList = true from hB]
   go_wp2_with fail
   go_ret2
   rw [hjm.out]
   exact ⟨rfl, hF3.below⟩
  | false =>
   rw [hB, if_neg (by decide)] at hjm
   go_enter Tryz.func91, Tryz.ntmps91
   go_wp2_with (first | ((with_reducible refine lsx (wp_fbox hF0 (cs := (vlL k n ⟨t.toArray⟩ (.slice An nn cn) (.slice Ak nk ck))) rfl (by with_unfolding_all rfl) (by with_unfolding_all rfl) ?_)); intro w1 g1 hF1 hz1) | (with_reducible refine lsx (wp_fldA0 hF1 uq76 rfl (by with_unfolding_all exact ⟨_, rfl, rfl⟩) (ds := (vlL k n ⟨t.toArray⟩ (.slice An nn cn) (.slice Ak nk ck))) (by rw [vlL_len]; kernel_rfl) (take_all _) ?_)))
   refine (htx.out _ hF1.below).mono ?_
   rintro e w2 ⟨rfl, hb2⟩
   have hF2 := hF1.call hb2
   unfold mStr mErr
   go_wp2_with fail
   refine (hmd.out _ (hM.on hF2.below)).mono ?_
   rintro e w3 ⟨rfl, hb3⟩
   have hF3 := hF2.call hb3
   rw [show mediaB (⟨t.toArray⟩ : ByteArray).data.toList = false from hB]
   go_wp2_with fail
   go_ret2
   rw [hjm.out]
   exact ⟨rfl, hF3.below⟩
 ·have hj : mText (.mk k n t ns ks) = .error 80 := if_neg hk
  have hjm : Box (mMedia (.mk k n t ns ks) = .error 80) := box (if_neg hk)
  rw [hj] at htx
  clear hj
  replace hk := box hk
  go_enter Tryz.func91, Tryz.ntmps91
  go_wp2_with (first | ((with_reducible refine lsx (wp_fbox hF0 (cs := (vlL k n ⟨t.toArray⟩ (.slice An nn cn) (.slice Ak nk ck))) rfl (by with_unfolding_all rfl) (by with_unfolding_all rfl) ?_)); intro w1 g1 hF1 hz1) | (with_reducible refine lsx (wp_fldA0 hF1 uq76 rfl (by with_unfolding_all exact ⟨_, rfl, rfl⟩) (ds := (vlL k n ⟨t.toArray⟩ (.slice An nn cn) (.slice Ak nk ck))) (by rw [vlL_len]; kernel_rfl) (take_all _) ?_)))
  refine (htx.out _ hF1.below).mono ?_
  rintro e w2 ⟨rfl, hb2⟩
  have hF2 := hF1.call hb2
  unfold mStr mErr
  go_wp2_with fail
  go_ret2
  rw [hjm.out]
  exact ⟨rfl, hF2.below⟩
def MNts (w : World) (r : MR (List MNote)) (e : Ending) (w' : World) : Prop := ∃ nt es, e = .returned (.tuple #[nt, mErr r]) ∧ VN (mLst r) nt es ∧ Fr [] w w' es
set_option maxRecDepth 20000 in
set_option maxHeartbeats 6400000 in
theorem mnotes_any (v : JV) (cs : List Value) (w : World) (hv : VRd w (· < w.heap.size) v cs) (hob : JOb v) :
  Calls Tryz.prog 94 #[.agg cs.toArray] w (MNts w (mNotes v)) := by
 obtain ⟨k, n, t, ns, ks⟩ := v
 have hv0 := hv
 rw [VRd] at hv
 obtain ⟨An, nn, cn, Ak, nk, ck, xs, hcn, hck, rfl, hrn, hrk, hvk⟩ := hv
 have hF0 := Fr.nil w
 have hkl := hvk.len
 rw [hrk.len] at hkl
 have hnl := hrn.len
 rw [List.length_map, Nat.mul_one] at hnl
 have hobj := hob.obj
 simp only [JV.kind, JV.names, JV.kids] at hobj
 by_cases hk : k = 6
 rotate_left
 ·have hj : Box (mNotes (.mk k n t ns ks) = .error 80) := box (if_neg hk)
  have hq : ((k : Int) != 6) = true := by rw [bne_iff_ne]; exact hk
  replace hk := box hk
  clear hobj
  go_enter Tryz.func94, Tryz.ntmps94
  go_wp2_with (first | ((with_reducible refine lsx (wp_fbox hF0 (cs := (vlL k n ⟨t.toArray⟩ (.slice An nn cn) (.slice Ak nk ck))) rfl (by with_unfolding_all rfl) (by with_unfolding_all rfl) ?_)); intro w1 g1 hF1 hz1) | (with_reducible refine lsx (wp_fld0 hF1 uq3 rfl (by with_unfolding_all exact ⟨_, rfl, rfl⟩) rfl ?_)))
  go_ret2
  unfold MNts
  rw [hj.out]
  exact ⟨_, _, rfl, VN.nil, hF1⟩
 have hq : ((k : Int) != 6) = false := by rw [hk]; rfl
 have hnk : nk = ks.length := by omega
 have hnn : ns.length = nk := by rw [hnk]; exact (hobj hk).1
 by_cases hbig : 32 < nk
 ·have hj : Box (mNotes (.mk k n t ns ks) = .error 8) := box ((if_pos hk).trans (if_pos (show 32 < ks.length by omega)))
  have hd : decide ((32 : Int) < (nk : Int)) = true := decide_eq_true (by omega)
  replace hk := box hk
  replace hnk := box hnk
  replace hnn := box hnn
  clear hobj hkl hnl
  go_enter Tryz.func94, Tryz.ntmps94
  go_wp2_with (first | ((with_reducible refine lsx (wp_fbox hF0 (cs := (vlL k n ⟨t.toArray⟩ (.slice An nn cn) (.slice Ak nk ck))) rfl (by with_unfolding_all rfl) (by with_unfolding_all rfl) ?_)); intro w1 g1 hF1 hz1) | (with_reducible refine lsx (wp_fld0 hF1 uq3 rfl (by with_unfolding_all exact ⟨_, rfl, rfl⟩) rfl ?_)) | (with_reducible refine lsx (wp_fld0 hF1 uq74 rfl (by with_unfolding_all exact ⟨_, rfl, rfl⟩) rfl ?_)))
  go_ret2
  unfold MNts
  rw [hj.out]
  exact ⟨_, _, rfl, VN.nil, hF1⟩
 have hd : decide ((32 : Int) < (nk : Int)) = false := decide_eq_false (by omega)
 obtain ⟨J, hJ0⟩ : ∃ J, J = mNotes (.mk k n t ns ks) := ⟨_, rfl⟩
 have hJ : Box (J = mApp [] (mNotesL (ns.drop 0) (ks.drop 0))) := box (by
  rw [hJ0, List.drop_zero, List.drop_zero]
  refine ((if_pos hk).trans (if_neg (show ¬ 32 < ks.length by omega))).trans ?_
  show mNotesL ns ks = _
  cases mNotesL ns ks <;> rfl)
 rw [← hJ0]
 have hnn2 : nn = nk := by omega
 subst hnn2
 replace hk := box hk
 replace hnk := box hnk
 replace hnn := box hnn
 replace hvk := box hvk
 clear hobj hkl hnl hJ0 hv0 hob
 go_enter Tryz.func94, Tryz.ntmps94
 go_wp2_with (first | ((with_reducible refine lsx (wp_fbox hF0 (cs := (vlL k n ⟨t.toArray⟩ (.slice An nn cn) (.slice Ak nn ck))) rfl (by with_unfolding_all rfl) (by with_unfolding_all rfl) ?_)); intro w1 g1 hF1 hz1) | (with_reducible refine lsx (wp_fld0 hF1 uq3 rfl (by with_unfolding_all exact ⟨_, rfl, rfl⟩) rfl ?_)) | (with_reducible refine lsx (wp_fld0 hF1 uq74 rfl (by with_unfolding_all exact ⟨_, rfl, rfl⟩) rfl ?_)))
 have hF2 := hF1.none_ w.heap.size 70 2
 clear hF0 hF1
 go_loopg [4, 23] nn (fun g ov iv wr => ∃ (i : Nat) (out : List MNote) (A : Option Addr) (c : Nat), i ≤ nn ∧ Box (g = nn - i) ∧ iv = .int .i64 (i : Int) ∧ ov = .slice A i c ∧ i ≤ c ∧ Box (out.length = i) ∧ Box (J = mApp out (mNotesL (ns.drop i) (ks.drop i))) ∧ Fr [] w wr [.own w.heap.size 70 2 (.slice A i c) i (ntsL out), .blk g1 76 (vlL k n ⟨t.toArray⟩ (.slice An nn cn) (.slice Ak nn ck))])
 case atStart => exact ⟨0, [], none, 0, by omega, box rfl, rfl, rfl, by omega, box rfl, hJ, hF2⟩
 case round =>
  clear hF2 hJ
  obtain ⟨i, out, A, c, hi, hgi, rfl, rfl, hic, hol, hJ, hF⟩ := hrel
  have hkk : Box (_ = nn - i) := hgi
  clear hgi
  have hrk' := hrk.below hF.below
  have hrn' := hrn.below hF.below
  by_cases hlt : i < nn
  ·obtain ⟨u, hu⟩ : ∃ u, ks[i]? = some u := ⟨ks[i]'(by rw [← hnk.out]; exact hlt), by simp⟩
   obtain ⟨s, hs⟩ : ∃ s, ns[i]? = some s := ⟨ns[i]'(by rw [hnn.out]; exact hlt), by simp⟩
   obtain ⟨ci, hci, hvi⟩ := hvk.out.at hu
   have hstep := mNotesL_go hs hu
   have hss : Box ((ns.map strv)[i]? = some (.string ⟨s.toArray⟩)) := box (by rw [List.getElem?_map, hs]; rfl)
   have hcil := box hvi.len
   have hcio := box (VRd.ones hvi)
   have htx := box (fun w' hb => mtext_any u ci w' _ (hvi.on (w' := w') hb))
   have hJ' := hJ.out
   rw [hstep] at hJ'
   replace hci := box hci
   replace hol2 := hol.out
   clear hu hs hstep hJ hvi
   by_cases hu4 : u.kind = 4
   ·rw [if_pos hu4, mApp_app] at hJ'
    have hjt : mText u = .ok u.text := if_pos hu4
    rw [hjt] at htx
    replace hJ' := box hJ'
    clear hjt hu4
    go_wp2_with (first | (with_reducible refine lsx (wp_indexAddr T_vals hrk' (by with_unfolding_all exact ⟨_, _, _, _, rfl, rfl, rfl⟩) (by omega) (by omega) ?_)) | (with_reducible refine lsx (wp_loadA hrk' uq76 rfl (by with_unfolding_all exact ⟨_, rfl, rfl⟩) (ds := ci) (by rw [hcil.out]; kernel_rfl) (by rw [hcil.out]; with_unfolding_all exact hci.out) ?_)) | ((with_reducible refine lsx (wp_falloc hF (cs := vl0) (z := .agg (List.toArray (vl0))) rfl (by kernel_rfl) (by with_unfolding_all rfl) ?_)); intro w2 g2 hF2 hz2) | ((with_reducible refine lsx (wp_fstA0 hF2 (by with_unfolding_all exact ⟨_, _, rfl, rfl, rfl⟩) (by rw [hcil.out]; kernel_rfl) hcio.out (by rw [hcil.out, vlL_len]; decide) (spl_all (by rw [hcil.out, vlL_len])) ?_)); intro w3 hF3 hz3) | (with_reducible refine lsx (wp_fldA0 hF3 uq76 rfl (by with_unfolding_all exact ⟨_, rfl, rfl⟩) (ds := ci) (by rw [hcil.out]; kernel_rfl) (take_all _) ?_)))
    refine (htx.out _ hF3.below).mono ?_
    rintro e w4 ⟨rfl, hb4⟩
    have hF4 := hF3.call hb4
    have hrn4 := hrn.below hF4.below
    unfold mStr mErr
    go_wp2_with (first | (with_reducible refine lsx (wp_fld2 hF4 uq48 rfl (by with_unfolding_all exact ⟨_, rfl, rfl⟩) rfl ?_)) | (with_reducible refine lsx (wp_indexAddr T_strs hrn4 (by with_unfolding_all exact ⟨_, _, _, _, rfl, rfl, rfl⟩) (by omega) (by omega) ?_)) | (with_reducible refine lsx (wp_load1C hrn4 hss uq9 rfl (by with_unfolding_all exact ⟨_, rfl, rfl⟩) (by first | (simp; done) | (simp; omega) | omega) ?_)) | (with_reducible refine lsx (wp_fbuild uq70 (z := .agg (List.toArray nt0)) (by kernel_rfl) (pl := ntP) (by kernel_rfl) (cs := (ntL ⟨s, u.text⟩)) rfl (vs := [(0, .string ⟨s.toArray⟩), (1, .string ⟨u.text.toArray⟩)]) (by with_unfolding_all rfl) (by with_unfolding_all rfl) ?_)) | ((with_reducible refine lsx (wp_fbs1 T_notes hF4 (by with_unfolding_all rfl) (ds := (ntL ⟨s, u.text⟩)) (by with_unfolding_all rfl) (ntL_len _) (by decide) ?_)); intro w5 g5 hF5 hz5) | ((with_reducible refine lsx (wp_fappG T_notes hF5 (i := 2) rfl (Nat.le_refl _) (hF5.rdOwn (i := 0) rfl) (ntL_one _) (by with_unfolding_all exact ⟨_, _, rfl, rfl, rfl⟩) (by unfold maxLen; omega) (by omega) ?_)); intro v6 w6 hF6 hz6; simp only [zZ, zN] at hF6; obtain ⟨A6, c6, rfl, hc6⟩ := hF6.ownParts (i := 2) rfl))
    go_roundg (nn - (i + 1))
    case rel => exact ⟨i + 1, out ++ [⟨s, u.text⟩], A6, c6, by omega, box rfl, by go_num, rfl, hc6, box (by rw [List.length_append, hol.out]; rfl), hJ', by rw [ntsL_snoc]; exact hF6.tail.tail⟩
    case measure => have := hkk.out; omega
   ·rw [if_neg hu4] at hJ'
    have hjt : mText u = .error 80 := if_neg hu4
    rw [hjt] at htx
    replace hJ' := box hJ'
    clear hjt
    replace hu4 := box hu4
    go_wp2_with (first | (with_reducible refine lsx (wp_indexAddr T_vals hrk' (by with_unfolding_all exact ⟨_, _, _, _, rfl, rfl, rfl⟩) (by omega) (by omega) ?_)) | (with_reducible refine lsx (wp_loadA hrk' uq76 rfl (by with_unfolding_all exact ⟨_, rfl, rfl⟩) (ds := ci) (by rw [hcil.out]; kernel_rfl) (by rw [hcil.out]; with_unfolding_all exact hci.out) ?_)) | ((with_reducible refine lsx (wp_falloc hF (cs := vl0) (z := .agg (List.toArray (vl0))) rfl (by kernel_rfl) (by with_unfolding_all rfl) ?_)); intro w2 g2 hF2 hz2) | ((with_reducible refine lsx (wp_fstA0 hF2 (by with_unfolding_all exact ⟨_, _, rfl, rfl, rfl⟩) (by rw [hcil.out]; kernel_rfl) hcio.out (by rw [hcil.out, vlL_len]; decide) (spl_all (by rw [hcil.out, vlL_len])) ?_)); intro w3 hF3 hz3) | (with_reducible refine lsx (wp_fldA0 hF3 uq76 rfl (by with_unfolding_all exact ⟨_, rfl, rfl⟩) (ds := ci) (by rw [hcil.out]; kernel_rfl) (take_all _) ?_)))
    refine (htx.out _ hF3.below).mono ?_
    rintro e w4 ⟨rfl, hb4⟩
    have hF4 := hF3.call hb4
    unfold mStr mErr
    go_wp2_with fail
    go_ret2
    unfold MNts
    rw [hJ'.out]
    exact ⟨_, _, rfl, VN.nil, hF4⟩
  ·have hend : Box (J = .ok out) := box (by rw [hJ.out, mNotesL_end (by rw [← hnk.out]; omega)]; simp [mApp])
   obtain rfl : nn = i := by omega
   go_wp2_with fail
   go_ret2
   unfold MNts
   rw [hend.out]
   have hF3 := hF.toRd (i := 0) rfl
   exact ⟨_, _, rfl, ⟨A, nn, c, hic, hol.out.symm, rfl, .inr (by simp [mLst])⟩, hF3⟩
end Go.Proofs.YtlhicfpmlncomaaGreatDoor

namespace Go.Proofs.YtlhicfpmlncomaaGreatDoor
open Go.RowKit
def digN (c : UInt8) : UInt8 := match hexv c with | some v => v | none => 16
theorem u8sub (c : UInt8) (k : Nat) (h : k ≤ c.toNat) (hk : k < 256) : ((c - UInt8.ofNat k).toNat) = c.toNat - k := by
 have := c.toNat_lt
 rw [UInt8.toNat_sub_of_le]
 ·rw [UInt8.toNat_ofNat', Nat.mod_eq_of_lt hk]
 ·rw [UInt8.le_iff_toNat_le, UInt8.toNat_ofNat', Nat.mod_eq_of_lt hk]; exact h
theorem digN_num (c : UInt8) (h : 48 ≤ c.toNat) (h' : c.toNat ≤ 57) : ((digN c).toNat : Int) = (c.toNat : Int) - 48 := by
 have h1 : hexv c = some (c - 48) := by unfold hexv; rw [if_pos ⟨by rw [UInt8.le_iff_toNat_le]; exact h, by rw [UInt8.le_iff_toNat_le]; exact h'⟩]
 unfold digN; rw [h1]
 have := u8sub c 48 h (by decide)
 simp only []
 rw [show (48 : UInt8) = UInt8.ofNat 48 from rfl, this]; omega
theorem digN_let (c : UInt8) (h : 97 ≤ c.toNat) (h' : c.toNat ≤ 102) : ((digN c).toNat : Int) = (c.toNat : Int) - 97 + 10 := by
 have h1 : hexv c = some (c - 97 + 10) := by
  unfold hexv
  rw [if_neg (fun hh => by have := hh.2; rw [UInt8.le_iff_toNat_le] at this; simp at this; omega), if_pos ⟨by rw [UInt8.le_iff_toNat_le]; exact h, by rw [UInt8.le_iff_toNat_le]; exact h'⟩]
 unfold digN; rw [h1]
 have := u8sub c 97 h (by decide)
 simp only []
 rw [show (97 : UInt8) = UInt8.ofNat 97 from rfl, UInt8.toNat_add, this]; simp; omega
theorem digN_none (c : UInt8) (h : ¬ (48 ≤ c.toNat ∧ c.toNat ≤ 57)) (h' : ¬ (97 ≤ c.toNat ∧ c.toNat ≤ 102)) : digN c = 16 := by
 have h1 : hexv c = none := by
  unfold hexv
  rw [if_neg (fun hh => h ⟨by simpa [UInt8.le_iff_toNat_le] using hh.1, by simpa [UInt8.le_iff_toNat_le] using hh.2⟩), if_neg (fun hh => h' ⟨by simpa [UInt8.le_iff_toNat_le] using hh.1, by simpa [UInt8.le_iff_toNat_le] using hh.2⟩)]
 unfold digN; rw [h1]
set_option maxRecDepth 20000 in
set_option maxHeartbeats 400000 in
theorem digit_any (c : UInt8) (w : World) :
  Calls Tryz.prog 149 #[.int .u8 c.toNat] w fun e w' => e = .returned (.int .u8 (digN c).toNat) ∧ w = w' := by
 have clt : c.toNat < 256 := c.toNat_lt
 by_cases h1 : 48 ≤ c.toNat ∧ c.toNat ≤ 57
 ·have hd := digN_num c h1.1 h1.2
  rw [hd]
  replace hd := box hd
  obtain ⟨h1, h2⟩ := h1
  go_enter Tryz.func149, Tryz.ntmps149
  go_wp2
  go_ret
  exact ⟨rfl, rfl⟩
 ·by_cases h2 : 97 ≤ c.toNat ∧ c.toNat ≤ 102
  ·have hd := digN_let c h2.1 h2.2
   rw [hd]
   replace hd := box hd
   obtain ⟨h2, h3⟩ := h2
   clear h1
   go_enter Tryz.func149, Tryz.ntmps149
   go_wp2
   go_ret
   exact ⟨rfl, rfl⟩
  ·rw [digN_none c h1 h2]
   go_enter Tryz.func149, Tryz.ntmps149
   go_wp2
   all_goals go_ret
   all_goals exact ⟨rfl, rfl⟩
structure UnhAt (l : List UInt8) (k : Nat) (r : List UInt8) : Prop where
 len : r.length = k
 eq : unhexL l = (unhexL (l.drop (2 * k))).map (r ++ ·)
theorem digN_some {c v : UInt8} (h : hexv c = some v) : digN c = v ∧ v.toNat ≤ 15 := by
 refine ⟨by unfold digN; rw [h], ?_⟩
 unfold hexv at h
 have hc := c.toNat_lt
 split at h
 ·rename_i h1
  injection h with h; subst h
  have h2 := h1.1; have h3 := h1.2
  rw [UInt8.le_iff_toNat_le] at h2 h3
  have := u8sub c 48 h2 (by decide)
  rw [show (48 : UInt8) = UInt8.ofNat 48 from rfl, this]
  have h4 : (57 : UInt8).toNat = 57 := rfl
  omega
 ·split at h
  ·rename_i h1
   injection h with h; subst h
   have h2 := h1.1; have h3 := h1.2
   rw [UInt8.le_iff_toNat_le] at h2 h3
   have := u8sub c 97 h2 (by decide)
   rw [show (97 : UInt8) = UInt8.ofNat 97 from rfl, UInt8.toNat_add, this]
   have h4 : (102 : UInt8).toNat = 102 := rfl
   have h5 : (10 : UInt8).toNat = 10 := rfl
   omega
  ·cases h
theorem digN_no {c : UInt8} (h : hexv c = none) : digN c = 16 := by unfold digN; rw [h]
theorem nib_nat (x y : UInt8) (hx : x.toNat ≤ 15) (hy : y.toNat ≤ 15) : (16 * x + y).toNat = x.toNat * 16 + y.toNat := by
 have h5 : (16 : UInt8).toNat = 16 := rfl
 rw [UInt8.toNat_add, UInt8.toNat_mul, h5]
 omega
theorem nib_or (x y : UInt8) (hx : x.toNat ≤ 15) (hy : y.toNat ≤ 15) : bits BinOp.or IntKind.u8 ((x.toNat : Int) * 16) (y.toNat : Int) = ((16 * x + y).toNat : Int) := by
 rw [show ((x.toNat : Int) * 16) = ((x.toNat * 16 : Nat) : Int) by omega, u8_or_nat _ _ (by omega) (by omega), nat_join 4 (x.toNat * 16) y.toNat (by omega) (by omega)]
 rw [nib_nat x y hx hy]
theorem unh_two (a b : UInt8) (l : List UInt8) : unhexL (a :: b :: l) = match hexv a, hexv b with
  | some x, some y => (unhexL l).map ((16 * x + y) :: ·)
  | _, _ => none := by
 rw [unhexL]
 cases hexv a <;> cases hexv b <;> cases unhexL l <;> rfl
theorem drop_two {l : List UInt8} {k : Nat} {a b : UInt8} (ha : l[k]? = some a) (hb : l[k + 1]? = some b) : l.drop k = a :: b :: l.drop (k + 2) := by
 obtain ⟨h1, h2⟩ := List.getElem?_eq_some_iff.1 ha
 obtain ⟨h3, h4⟩ := List.getElem?_eq_some_iff.1 hb
 rw [List.drop_eq_getElem_cons h1, h2, List.drop_eq_getElem_cons h3, h4]
theorem UnhAt.bad {l : List UInt8} {k : Nat} {r : List UInt8} (h : UnhAt l k r) {a b : UInt8} (ha : l[2 * k]? = some a) (hb : l[2 * k + 1]? = some b) (hn : hexv a = none ∨ hexv b = none) : unhexL l = none := by
 rw [h.eq, drop_two ha hb, unh_two]
 rcases hn with hn | hn <;> rw [hn]
 ·rfl
 ·cases hexv a <;> rfl
theorem UnhAt.next {l : List UInt8} {k : Nat} {r : List UInt8} (h : UnhAt l k r) {a b x y : UInt8} (ha : l[2 * k]? = some a) (hb : l[2 * k + 1]? = some b) (hx : hexv a = some x) (hy : hexv b = some y) :
  UnhAt l (k + 1) (r ++ [16 * x + y]) := by
 refine ⟨by rw [List.length_append, h.len]; rfl, ?_⟩
 rw [h.eq, drop_two ha hb, unh_two, hx, hy, Option.map_map, show 2 * k + 2 = 2 * (k + 1) by omega]
 congr 1
 funext z
 simp
theorem UnhAt.done {l : List UInt8} {k : Nat} {r : List UInt8} (h : UnhAt l k r) (hk : l.length = 2 * k) : unhexL l = some r := by
 rw [h.eq, List.drop_of_length_le (by omega), unhexL]; simp
theorem unh_odd : ∀ (l : List UInt8), l.length % 2 = 1 → unhexL l = none
 | [], h => by simp at h
 | [_], _ => rfl
 | a :: b :: l, h => by
  rw [unh_two, unh_odd l (by simp at h; omega)]
  cases hexv a <;> cases hexv b <;> rfl
set_option maxRecDepth 20000 in
set_option maxHeartbeats 800000 in
theorem unhex_any (s : ByteArray) (w : World) (hm : s.size ≤ 140737488355000) (E : Int) (R : List UInt8) (hR : Box (R = (unhexL s.data.toList).getD [] ∧ E = if (unhexL s.data.toList).isSome then 0 else 10)) :
  Calls Tryz.prog 135 #[.string s] w fun e w' => ∃ v, e = .returned (.tuple #[v, .int .i64 E]) ∧ OwnB w' w.heap.size 5 v R ∧ Below w.heap.size w w' := by
 have hb0 := Below.refl w.heap.size w
 have hB0 := Nat.le_refl w.heap.size
 by_cases h2 : s.size % 2 = 0
 ·obtain ⟨m, hsm⟩ : ∃ m, s.size = 2 * m := ⟨s.size / 2, by omega⟩
  have h3 : ((s.size : Int).tmod 2) = 0 := by rw [Int.tmod_eq_emod_of_nonneg (by omega)]; omega
  have h4 : ((s.size : Int).tdiv 2) = (m : Int) := by rw [Int.tdiv_eq_ediv_of_nonneg (by omega)]; omega
  go_enter Tryz.func135, Tryz.ntmps135
  go_wp2_with (first | (at_make; go_must (with_reducible refine lsx (wp_makeB T_u8 hb0 hB0 (by with_unfolding_all exact ⟨_, _, _, _, rfl, rfl, rfl⟩) (n := m) (by omega) (by omega) ?_); intro A1 c1 w1 hown1 hb1 hB1 hg1)))
  obtain ⟨W, rfl⟩ : ∃ W : World, W = w1 := ⟨_, rfl⟩
  go_loopw [18] (fun i wr => ∃ k r, k ≤ m ∧ i = .int .i64 (k : Nat) ∧ Box (UnhAt s.data.toList k r) ∧ OwnB wr w.heap.size 5 (.slice A1 m c1) (r ++ List.replicate (m - k) 0) ∧ Below w.heap.size w wr) (fun i _ => m - (intOf i).toNat)
  case atStart => exact ⟨0, [], by omega, rfl, ⟨rfl, by simp⟩, hown1, hb1⟩
  case round =>
   clear hown1 hb1 hB1 hg1
   obtain ⟨k, r, hk, rfl, HU, hown, hb⟩ := hrel
   have hr := hown.rd
   by_cases hlt : k < m
   ·obtain ⟨a, ha⟩ := str_at (s := s) (j := 2 * k) (by omega)
    obtain ⟨b, hbb⟩ := str_at (s := s) (j := 2 * k + 1) (by omega)
    have hia := fun W => run_strIx (P := Tryz.prog) uq9 ha (i := 2 * (k : Int)) (by omega) .i64 W
    have hib := fun W => run_strIx (P := Tryz.prog) uq9 hbb (i := 2 * (k : Int) + 1) (by omega) .i64 W
    replace ha := box ha
    replace hbb := box hbb
    by_cases hbad : hexv a = none ∨ hexv b = none
    ·have hun := HU.out.bad ha.out hbb.out hbad
     have hRe := hR.out
     rw [hun] at hRe
     obtain ⟨rfl, rfl⟩ := hRe
     rcases hbad with hbad | hbad
     all_goals
      have hd := digN_no hbad
      have hd15 : 15 < ((16 : UInt8).toNat : Int) := by decide
      replace hbad := box hbad
      replace hun := box hun
      go_wp2
      go_quiet ((go_at_call 149; exact Calls.quiet_of_same (quietC (digit_any _ _))))
      go_wp2
      all_goals go_ret2
      all_goals exact ⟨_, rfl, OwnB.nil _ _ _, below_drewN hb _⟩
    ·obtain ⟨x, hx⟩ : ∃ x, hexv a = some x := by
      cases h : hexv a with
      | none => exact absurd (.inl h) hbad
      | some x => exact ⟨x, rfl⟩
     obtain ⟨y, hy⟩ : ∃ y, hexv b = some y := by
      cases h : hexv b with
      | none => exact absurd (.inr h) hbad
      | some y => exact ⟨y, rfl⟩
     have hdx := (digN_some hx).1
     have hdy := (digN_some hy).1
     have hx15 := (digN_some hx).2
     have hy15 := (digN_some hy).2
     have hU2 := box (HU.out.next ha.out hbb.out hx hy)
     replace hx := box hx
     replace hy := box hy
     replace hbad := box hbad
     have hor := nib_or x y hx15 hy15
     have hnat := box (nib_nat x y hx15 hy15)
     have hset : (r ++ List.replicate (m - k) 0).set k (16 * x + y) = (r ++ [16 * x + y]) ++ List.replicate (m - (k + 1)) 0 := by
      rw [List.set_append_right _ _ (by rw [HU.out.len]; omega), HU.out.len, Nat.sub_self, show m - k = (m - (k + 1)) + 1 by omega, List.replicate_succ, List.set_cons_zero]
      simp
     replace hset := box hset
     clear hr
     go_wp2
     go_quiet ((go_at_call 149; exact Calls.quiet_of_same (quietC (digit_any _ _))))
     have hown2 := hown.drewN nq
     have hb2 := below_drewN hb nq
     have hr2 := hown2.rd
     generalize wr.drewN nq = W2 at *
     go_wp2_with (first | (with_reducible refine lsx (wp_indexAddr T_u8 hr2 (by with_unfolding_all exact ⟨_, _, _, _, rfl, rfl, rfl⟩) (by omega) (by omega) ?_)) | ((with_reducible refine lsx (wp_storeB I_u8 hown2 hb2 (by with_unfolding_all exact ⟨_, _, rfl, rfl, rfl⟩) (by first | omega | (simp; omega)) ?_ ?_)); exact byte_of (by omega) (by omega); intro w1 d1 hd1 hown1 hb1 hs1))
     go_roundw
     have hd : d1 = 16 * x + y := UInt8.toNat_inj.1 (by have := hd1.out; have := hnat.out; omega)
     rw [hd, show (k : Int).toNat * 1 = k by simp, hset.out] at hown1
     case rel => exact ⟨k + 1, _, by omega, by go_num, hU2, hown1, hb1⟩
     case measure => simp [intOf]; omega
   ·have hd := HU.out.done (by rw [str_len]; omega)
    have hRe := hR.out
    rw [hd] at hRe
    obtain ⟨rfl, rfl⟩ := hRe
    replace hd := box hd
    rw [show m - k = 0 by omega, List.replicate_zero, List.append_nil] at hown
    go_wp2
    go_ret2
    exact ⟨_, rfl, hown, hb⟩
 ·have hun := unh_odd s.data.toList (by rw [str_len]; omega)
  have hRe := hR.out
  rw [hun] at hRe
  obtain ⟨rfl, rfl⟩ := hRe
  replace hun := box hun
  go_enter Tryz.func135, Tryz.ntmps135
  go_wp2
  go_ret2
  exact ⟨_, rfl, OwnB.nil _ _ _, Below.refl _ _⟩
end Go.Proofs.YtlhicfpmlncomaaGreatDoor

namespace Go.Proofs.YtlhicfpmlncomaaGreatDoor
open Go.RowKit
theorem hexL_len : ∀ (l : List UInt8), (hexL l).length = 2 * l.length
 | [] => rfl
 | c :: l => by rw [hexL, List.length_cons, List.length_cons, hexL_len l, List.length_cons]; omega
theorem hexL_snoc : ∀ (l : List UInt8) (d : UInt8), hexL (l ++ [d]) = hexL l ++ [hexd (d / 16), hexd (d % 16)]
 | [], _ => rfl
 | c :: l, d => by rw [List.cons_append, hexL, hexL_snoc l d, hexL]; rfl
theorem hexd_nat (x : UInt8) (h : x.toNat < 16) : (hexd x).toNat = if x.toNat < 10 then 48 + x.toNat else 87 + x.toNat := by
 have : ∀ n : Fin 16, (hexd (UInt8.ofNat n.val)).toNat = if n.val < 10 then 48 + n.val else 87 + n.val := by decide +kernel
 have h2 := this ⟨x.toNat, h⟩
 simpa using h2
def two (d : UInt8) : List UInt8 := [hexd (d / 16), hexd (d % 16)]
set_option maxRecDepth 20000 in
set_option maxHeartbeats 800000 in
theorem rhex_any (A : Option Addr) (n c : Nat) (l : List UInt8) (w : World) (hm : n ≤ 70368744177000) (hr : Rd w (· < w.heap.size) A 1 n (l.map bv)) :
  Calls Tryz.prog 109 #[.slice A n c] w fun e w' => e = .returned (.string ⟨(hexL l).toArray⟩) ∧ Below w.heap.size w w' := by
 have hl := box hr.bytes_len
 go_enter Tryz.func109, Tryz.ntmps109
 go_wp2
 go_loopw [3, 4] (fun v i wr => ∃ k : Nat, k ≤ n ∧ i = .int .i64 k ∧ OwnB wr w.heap.size 5 v (hexL (l.take k)) ∧ Below w.heap.size w wr ∧ w.heap.size ≤ wr.heap.size) (fun _ i _ => n - (intOf i).toNat)
 case atStart => exact ⟨0, by omega, rfl, OwnB.nil _ _ _, Below.refl _ _, Nat.le_refl _⟩
 case round =>
  obtain ⟨k, hk, rfl, hown, hb, hB⟩ := hrel
  by_cases hlt : k < n
  ·obtain ⟨d, hd⟩ : ∃ d, l[k]? = some d := ⟨l[k]'(by have := hl.out; omega), by simp⟩
   replace hd := box hd
   obtain ⟨wo, rfl⟩ : ∃ wo : World, wo = wr := ⟨_, rfl⟩
   go_wp2
   go_loopw [3, 5, 6] (fun v j q wr => ∃ m : Nat, m ≤ 2 ∧ j = .int .i64 m ∧ OwnB wr w.heap.size 5 v (hexL (l.take k) ++ (two d).take m) ∧ Below w.heap.size w wr ∧ w.heap.size ≤ wr.heap.size) (fun _ j _ _ => 2 - (intOf j).toNat)
   case atStart => exact ⟨0, by omega, rfl, by rw [List.take_zero, List.append_nil]; exact hown, hb, hB⟩
   case round =>
    clear hown hb hB
    obtain ⟨m, hm2, rfl, hown, hb, hB⟩ := hrel
    have hr' := hr.below hb
    have hroom : (hexL (l.take k) ++ (two d).take m).length + 1 ≤ 140737488355328 := by
     rw [List.length_append, hexL_len, List.length_take, List.length_take]; omega
    have dlt : d.toNat < 256 := d.toNat_lt
    have hd16 : (d / 16).toNat = d.toNat / 16 := by rw [UInt8.toNat_div]; rfl
    have hm16 : (d % 16).toNat = d.toNat % 16 := by rw [UInt8.toNat_mod]; rfl
    have hx := hexd_nat (d / 16) (by omega)
    have hy := hexd_nat (d % 16) (by omega)
    rw [hd16] at hx
    rw [hm16] at hy
    replace hx := box hx
    replace hy := box hy
    clear hd16 hm16
    by_cases h0 : m = 0
    ·subst h0
     by_cases h10 : d.toNat / 16 < 10
     all_goals
      go_wp2_with (first | (at_builtin; go_must (with_reducible refine lsx (wp_appB1 T_u8 hown hb (by with_unfolding_all exact ⟨_, _, rfl, rfl, rfl⟩) hroom hB ?_ ?_); exact byte_of (by omega) (by omega); intro v' w1 c hc hown1 hb1 hB1)) | (with_reducible refine lsx (wp_indexAddr T_u8 hr' (by with_unfolding_all exact ⟨_, _, _, _, rfl, rfl, rfl⟩) (by omega) (by omega) ?_)) | (with_reducible refine lsx (wp_loadC hr' hd uq5 rfl (by with_unfolding_all exact ⟨_, rfl, rfl⟩) (by first | (simp; done) | (simp; omega) | omega) ?_)))
      go_roundw
      have e : c = hexd (d / 16) := UInt8.toNat_inj.1 (by have h1 := hx.out; have h2 := hc.out; split at h1 <;> omega)
      case rel => exact ⟨1, by omega, by go_num, by rw [two, List.take_succ_cons, List.take_zero, ← e]; simpa using hown1, hb1, hB1⟩
      case measure => simp [intOf]
    ·by_cases h1 : m = 1
     ·subst h1
      by_cases h10 : d.toNat % 16 < 10
      all_goals
       go_wp2_with (first | (at_builtin; go_must (with_reducible refine lsx (wp_appB1 T_u8 hown hb (by with_unfolding_all exact ⟨_, _, rfl, rfl, rfl⟩) hroom hB ?_ ?_); exact byte_of (by omega) (by omega); intro v' w1 c hc hown1 hb1 hB1)) | (with_reducible refine lsx (wp_indexAddr T_u8 hr' (by with_unfolding_all exact ⟨_, _, _, _, rfl, rfl, rfl⟩) (by omega) (by omega) ?_)) | (with_reducible refine lsx (wp_loadC hr' hd uq5 rfl (by with_unfolding_all exact ⟨_, rfl, rfl⟩) (by first | (simp; done) | (simp; omega) | omega) ?_)))
       go_roundw
       have e : c = hexd (d % 16) := UInt8.toNat_inj.1 (by have h1 := hy.out; have h2 := hc.out; split at h1 <;> omega)
       case rel => exact ⟨2, by omega, by go_num, by rw [e, two, List.append_assoc] at hown1; exact hown1, hb1, hB1⟩
       case measure => simp [intOf]
     ·obtain rfl : m = 2 := by omega
      go_wp2
      go_roundw
      case rel => exact ⟨k + 1, by omega, by go_num, by rw [take_snoc hd.out, hexL_snoc]; exact hown, hb, hB⟩
      case measure => simp [intOf]; omega
  ·obtain ⟨A5, c5, rfl, _⟩ := hown.form
   have hr5 := hown.rd
   go_wp2_with (first | (with_reducible refine lsx (wp_b2s T_u8 uq5 uq9 hr5 (by with_unfolding_all exact ⟨_, rfl, rfl⟩) ?_)))
   go_ret
   exact ⟨by rw [List.take_of_length_le (by have := hl.out; omega)]; rfl, hb⟩
end Go.Proofs.YtlhicfpmlncomaaGreatDoor

namespace Go.Proofs.YtlhicfpmlncomaaGreatDoor
open Go.RowKit
def UnhIn (a b : UInt8) (m V : Nat) : Prop := m = 0 ∧ V = 0 ∨ m = 1 ∧ (∃ x, hexv a = some x ∧ V = x.toNat) ∨ m = 2 ∧ ∃ x y, hexv a = some x ∧ hexv b = some y ∧ V = 16 * x.toNat + y.toNat
theorem UnhIn.first {a b : UInt8} {v q : Nat} (h : UnhIn a b 0 v) (hx : ∃ x, hexv a = some x ∧ x.toNat = q) : UnhIn a b 1 (16 * v + q) ∧ 16 * v + q ≤ 255 := by
 obtain ⟨x, hx, he⟩ := hx
 have hl := (digN_some hx).2
 rcases h with ⟨_, rfl⟩ | ⟨h, _⟩ | ⟨h, _⟩
 ·exact ⟨.inr (.inl ⟨rfl, x, hx, by omega⟩), by omega⟩
 ·cases h
 ·cases h
end Go.Proofs.YtlhicfpmlncomaaGreatDoor

namespace Go.Proofs.YtlhicfpmlncomaaGreatDoor
open Go.RowKit
theorem ext_take (s : ByteArray) (a : Nat) : (s.extract 0 a).data.toList = s.data.toList.take a := Lib.extract_from_zero s a
set_option maxRecDepth 20000 in
set_option maxHeartbeats 1600000 in
theorem dgParse_any (s : ByteArray) (w : World) (hs : s.size ≤ 140737488355000) :
  Calls Tryz.prog 122 #[.string s] w fun e w' => e = .returned (.tuple #[.agg (((dgP s.data.toList).getD zeros).map bv).toArray, .int .i64 (if (dgP s.data.toList).isSome = true then 0 else 10)]) ∧ Below w.heap.size w w' := by
 have hF0 := Fr.nil w
 have hz0 := box zeros_len
 have hlb := str_len s
 by_cases h71 : s.size = 71
 ·have hl : (71 : Nat) ≤ s.size := by omega
  have hE : ((s.size : Int) != 71) = false := by rw [bne_eq_false_iff_eq]; omega
  by_cases h7 : s.data.toList.take 7 = sha7
  ·rw [dgP_yes (by rw [hlb]; exact h71) h7]
   have hq : ((s.extract 0 7).toList == [115, 104, 97, 50, 53, 54, 58]) = true := by
    rw [beq_iff_eq, ByteArray.toList_eq, ext_take]; exact h7
   have hux := box (fun w => unhex_any (s.extract 7 s.size) w (by rw [ext_size]; omega) (if (unhexL (s.data.toList.drop 7)).isSome = true then 0 else 10) ((unhexL (s.data.toList.drop 7)).getD []) (box (by rw [ext_list]; exact ⟨rfl, rfl⟩)))
   have hdl := fun d (h : unhexL (s.data.toList.drop 7) = some d) => dgP_len (l := s.data.toList) (d := d) (by rw [dgP_yes (by rw [hlb]; exact h71) h7]; exact h)
   clear h71 hlb
   replace h7 := box h7
   cases hu : unhexL (s.data.toList.drop 7) with
   | none =>
    rw [hu] at hux
    simp only [Option.isSome_none, Option.getD_none, if_false, Bool.false_eq_true] at hux ⊢
    replace hu := box hu
    clear hdl
    go_enter Tryz.func122, Tryz.ntmps122
    go_wp2_with (first | ((with_reducible refine lsx (wp_falloc hF0 (cs := (zeros.map bv)) (z := .agg (List.toArray ((zeros.map bv)))) rfl (by kernel_rfl) (by with_unfolding_all rfl) ?_)); intro w1 g1 hF1 hz1) | ((with_reducible refine lsx (wp_falloc hF1 (cs := (zeros.map bv)) (z := .agg (List.toArray ((zeros.map bv)))) rfl (by kernel_rfl) (by with_unfolding_all rfl) ?_)); intro w2 g2 hF2 hz2))
    refine (hux.out _).mono ?_
    rintro e w3 ⟨v3, rfl, ho3, hb3⟩
    have hF4 := hF2.call hb3
    go_wp2_with (first | (with_reducible refine lsx (wp_fldA0 hF4 uq25 rfl (by with_unfolding_all exact ⟨_, rfl, rfl⟩) (ds := (zeros.map bv)) (by rw [hz0.out]; kernel_rfl) (take_all _) ?_)) | ((with_reducible refine lsx (wp_fstA1 hF4 (by with_unfolding_all exact ⟨_, _, rfl, rfl, rfl⟩) (by rw [hz0.out]; kernel_rfl) (bv_one _) (by rw [hz0.out]; omega) (spl_all rfl) ?_)); intro w5 hF5 hz5))
    exact bodyPost_ret (results_cellF2 rfl _ hF5 (i := 1) rfl rfl uq25 rfl (by rw [hz0.out]; kernel_rfl)) rfl ⟨rfl, hF5.below⟩
   | some d =>
    have hd := box (hdl d hu)
    rw [hu] at hux
    simp only [Option.isSome_some, Option.getD_some, if_true] at hux ⊢
    replace hu := box hu
    clear hdl
    have hdm : Box ((d.map bv).length = 32) := box (by rw [List.length_map]; exact hd.out)
    go_enter Tryz.func122, Tryz.ntmps122
    go_wp2_with (first | ((with_reducible refine lsx (wp_falloc hF0 (cs := (zeros.map bv)) (z := .agg (List.toArray ((zeros.map bv)))) rfl (by kernel_rfl) (by with_unfolding_all rfl) ?_)); intro w1 g1 hF1 hz1) | ((with_reducible refine lsx (wp_falloc hF1 (cs := (zeros.map bv)) (z := .agg (List.toArray ((zeros.map bv)))) rfl (by kernel_rfl) (by with_unfolding_all rfl) ?_)); intro w2 g2 hF2 hz2))
    refine (hux.out _).mono ?_
    rintro e w3 ⟨v3, rfl, ho3, hb3⟩
    obtain ⟨A3, c3, rfl, hc3, hr3⟩ := ho3.arg
    have hF4 := hF2.call hb3
    obtain ⟨Z, hZ, hZl⟩ : ∃ Z : List Value, Z = zeros.map bv ∧ Z.length = 32 := ⟨_, rfl, zeros_len⟩
    rw [← hZ] at hF4
    clear hZ hF0 hF1 hF2 hz1 hz2
    have hcp : Box (spl Z 0 ((d.map bv).take 32) = d.map bv) := box (by
     rw [List.take_of_length_le (by have := hdm.out; omega)]
     exact spl_all (by rw [hdm.out, hZl]))
    replace hZl := box hZl
    have hZ2 : 32 ≤ Z.length := by have := hZl.out; omega
    --DBG
    go_wp2_with (first | ((with_reducible refine lsx (wp_fcopy0 uq22 (by kernel_rfl) hF4 hr3 (bv_one _) (by with_unfolding_all rfl) (by with_unfolding_all rfl) (by with_unfolding_all rfl) (by first | (simp; done) | (simp; omega)) hcp.out ?_)); intro w5 hF5 hz5) | (with_reducible refine lsx (wp_fldA0 hF5 uq25 rfl (by with_unfolding_all exact ⟨_, rfl, rfl⟩) (ds := (d.map bv)) (by rw [hdm.out]; kernel_rfl) (take_all _) ?_)) | ((with_reducible refine lsx (wp_fstA1 hF5 (by with_unfolding_all exact ⟨_, _, rfl, rfl, rfl⟩) (by rw [hdm.out]; kernel_rfl) (bv_one _) (by rw [hdm.out, hZl.out]; omega) (spl_all (by rw [hdm.out, hZl.out])) ?_)); intro w6 hF6 hz6))
    exact bodyPost_ret (results_cellF2 rfl _ hF6 (i := 1) rfl rfl uq25 rfl (by rw [hdm.out]; kernel_rfl)) rfl ⟨rfl, hF6.below⟩
  ·rw [dgP_no2 h7]
   have hq : ((s.extract 0 7).toList == [115, 104, 97, 50, 53, 54, 58]) = false := by
    rw [beq_eq_false_iff_ne, ByteArray.toList_eq, ext_take]; exact h7
   clear h71 hlb
   replace h7 := box h7
   go_enter Tryz.func122, Tryz.ntmps122
   go_wp2_with (first | ((with_reducible refine lsx (wp_falloc hF0 (cs := (zeros.map bv)) (z := .agg (List.toArray ((zeros.map bv)))) rfl (by kernel_rfl) (by with_unfolding_all rfl) ?_)); intro w1 g1 hF1 hz1) | ((with_reducible refine lsx (wp_falloc hF1 (cs := (zeros.map bv)) (z := .agg (List.toArray ((zeros.map bv)))) rfl (by kernel_rfl) (by with_unfolding_all rfl) ?_)); intro w2 g2 hF2 hz2) | (with_reducible refine lsx (wp_fldA0 hF2 uq25 rfl (by with_unfolding_all exact ⟨_, rfl, rfl⟩) (ds := (zeros.map bv)) (by rw [hz0.out]; kernel_rfl) (take_all _) ?_)) | ((with_reducible refine lsx (wp_fstA1 hF2 (by with_unfolding_all exact ⟨_, _, rfl, rfl, rfl⟩) (by rw [hz0.out]; kernel_rfl) (bv_one _) (by rw [hz0.out]; omega) (spl_all rfl) ?_)); intro w3 hF3 hz3))
   exact bodyPost_ret (results_cellF2 rfl _ hF3 (i := 1) rfl rfl uq25 rfl (by rw [hz0.out]; kernel_rfl)) rfl ⟨rfl, hF3.below⟩
 ·rw [dgP_no1 (by rw [hlb]; exact h71)]
  have hE : ((s.size : Int) != 71) = true := by rw [bne_iff_ne]; omega
  clear hlb
  replace h71 := box h71
  go_enter Tryz.func122, Tryz.ntmps122
  go_wp2_with (first | ((with_reducible refine lsx (wp_falloc hF0 (cs := (zeros.map bv)) (z := .agg (List.toArray ((zeros.map bv)))) rfl (by kernel_rfl) (by with_unfolding_all rfl) ?_)); intro w1 g1 hF1 hz1) | ((with_reducible refine lsx (wp_falloc hF1 (cs := (zeros.map bv)) (z := .agg (List.toArray ((zeros.map bv)))) rfl (by kernel_rfl) (by with_unfolding_all rfl) ?_)); intro w2 g2 hF2 hz2) | (with_reducible refine lsx (wp_fldA0 hF2 uq25 rfl (by with_unfolding_all exact ⟨_, rfl, rfl⟩) (ds := (zeros.map bv)) (by rw [hz0.out]; kernel_rfl) (take_all _) ?_)) | ((with_reducible refine lsx (wp_fstA1 hF2 (by with_unfolding_all exact ⟨_, _, rfl, rfl, rfl⟩) (by rw [hz0.out]; kernel_rfl) (bv_one _) (by rw [hz0.out]; omega) (spl_all rfl) ?_)); intro w3 hF3 hz3))
  exact bodyPost_ret (results_cellF2 rfl _ hF3 (i := 1) rfl rfl uq25 rfl (by rw [hz0.out]; kernel_rfl)) rfl ⟨rfl, hF3.below⟩
end Go.Proofs.YtlhicfpmlncomaaGreatDoor

namespace Go.Proofs.YtlhicfpmlncomaaGreatDoor
open Go.RowKit
def hadI (h : MHad) : Int := (if h.a = true then 1 else 0) + (if h.b = true then 2 else 0) + (if h.c = true then 4 else 0)
theorem had_or1 (h : MHad) : bits BinOp.or IntKind.i64 (hadI h) 1 = hadI { h with a := true } := by obtain ⟨a, b, c⟩ := h; cases a <;> cases b <;> cases c <;> rfl
theorem had_or2 (h : MHad) : bits BinOp.or IntKind.i64 (hadI h) 2 = hadI { h with b := true } := by obtain ⟨a, b, c⟩ := h; cases a <;> cases b <;> cases c <;> rfl
theorem had_or4 (h : MHad) : bits BinOp.or IntKind.i64 (hadI h) 4 = hadI { h with c := true } := by obtain ⟨a, b, c⟩ := h; cases a <;> cases b <;> cases c <;> rfl
theorem had_7 (h : MHad) : ((hadI h : Int) != 7) = !(h.a && (h.b && h.c)) := by obtain ⟨a, b, c⟩ := h; cases a <;> cases b <;> cases c <;> rfl
theorem mDescL_go {ns : List (List UInt8)} {ks : List JV} {i : Nat} {s : List UInt8} {k : JV} {d : MDesc} {h : MHad} (hs : ns[i]? = some s) (hk : ks[i]? = some k) : mDescL d h (ns.drop i) (ks.drop i) = match mdStep d h s k with
  | .ok x => mDescL x.1 x.2 (ns.drop (i + 1)) (ks.drop (i + 1))
  | .error e => .error e := by
 rw [List.drop_eq_getElem_cons (List.getElem?_eq_some_iff.1 hs).1, (List.getElem?_eq_some_iff.1 hs).2, List.drop_eq_getElem_cons (List.getElem?_eq_some_iff.1 hk).1, (List.getElem?_eq_some_iff.1 hk).2, mDescL]
 cases mdStep d h s k <;> rfl
theorem mDescL_end {ns : List (List UInt8)} {ks : List JV} {i : Nat} {d : MDesc} {h : MHad} (hk : ks.length ≤ i) : mDescL d h (ns.drop i) (ks.drop i) = if h.a = true ∧ h.b = true ∧ h.c = true then .ok d else .error 80 := by
 rw [List.drop_of_length_le hk]
 cases ns.drop i <;> (rw [mDescL]; intros; rename_i h1 h2; cases h2)
theorem mdStep_dig {d d' : MDesc} {h h' : MHad} {s : List UInt8} {k : JV} (hd : d.dig.length = 32) (hs : mdStep d h s k = .ok (d', h')) : d'.dig.length = 32 := by
 unfold mdStep at hs
 split at hs
 ·cases hm : mMedia k with
  | error e => rw [hm] at hs; cases hs
  | ok t => rw [hm] at hs; cases hs; exact hd
 ·split at hs
  ·split at hs
   ·cases hm : dgP k.text with
    | none => rw [hm] at hs; cases hs
    | some x => rw [hm] at hs; cases hs; exact dgP_len hm
   ·cases hs
  ·split at hs
   ·split at hs
    ·split at hs
     ·cases hs
     ·cases hs; exact hd
    ·cases hs
   ·split at hs
    ·cases hm : mNotes k with
     | error e => rw [hm] at hs; cases hs
     | ok t => rw [hm] at hs; cases hs; exact hd
    ·cases hs
def dsP : List (Nat × Nat) := [(0, 1), (1, 32), (33, 1), (34, 1)]
def mDs (r : MR MDesc) : MDesc := match r with
 | .ok d => d
 | .error _ => .zero
def MDsc (w : World) (r : MR MDesc) (e : Ending) (w' : World) : Prop := ∃ cs es, e = .returned (.tuple #[.agg cs.toArray, mErr r]) ∧ VD (mDs r) cs es ∧ Fr [] w w' es
def DSt (w : World) (g1 g2 : Nat) (vl : List Value) (TE : List Ent) (r : MR (MDesc × MHad)) (e3 h4 : Value) (wx : World) : Prop :=
 ∃ TE', (∀ e ∈ TE, e ∈ TE') ∧ match r with
  | .ok x => e3 = .nilIface ∧ h4 = .int .i64 (hadI x.2) ∧ ∃ nt, VN x.1.notes nt TE' ∧ Fr [] w wx (.blk g2 28 (dsL x.1.media x.1.dig x.1.size nt) :: .blk g1 76 vl :: TE')
  | .error e => e3 = .iface 84 (.agg #[.int .i64 (e : Int)]) ∧ (∃ z, h4 = .int .i64 z) ∧ ∃ m dg z nt, dg.length = 32 ∧ Fr [] w wx (.blk g2 28 (dsL m dg z nt) :: .blk g1 76 vl :: TE')
set_option maxRecDepth 20000 in
set_option maxHeartbeats 12800000 in
theorem mdesc_any (v : JV) (cs : List Value) (w : World) (hM : MaxW w) (hv : VRd w (· < w.heap.size) v cs) (hob : JOb v) :
  Calls Tryz.prog 92 #[.agg cs.toArray] w (MDsc w (mDesc v)) := by
 obtain ⟨k, n, t, ns, ks⟩ := v
 rw [VRd] at hv
 obtain ⟨An, nn, cn, Ak, nk, ck, xs, hcn, hck, rfl, hrn, hrk, hvk⟩ := hv
 have hF0 := Fr.nil w
 have hkl := hvk.len
 rw [hrk.len] at hkl
 have hnl := hrn.len
 rw [List.length_map, Nat.mul_one] at hnl
 have hobj := hob.obj
 simp only [JV.kind, JV.names, JV.kids] at hobj
 by_cases hk : k = 6
 rotate_left
 ·have hj : Box (mDesc (.mk k n t ns ks) = .error 80) := box (if_neg hk)
  have hq : ((k : Int) != 6) = true := by rw [bne_iff_ne]; exact hk
  replace hk := box hk
  clear hobj
  go_enter Tryz.func92, Tryz.ntmps92
  go_wp2_with (first | ((with_reducible refine lsx (wp_fbox hF0 (cs := (vlL k n ⟨t.toArray⟩ (.slice An nn cn) (.slice Ak nk ck))) rfl (by with_unfolding_all rfl) (by with_unfolding_all rfl) ?_)); intro w1 g1 hF1 hz1) | ((with_reducible refine lsx (wp_falloc hF1 (cs := ds0) (z := .agg (List.toArray (ds0))) rfl (by kernel_rfl) (by with_unfolding_all rfl) ?_)); intro w2 g2 hF2 hz2) | (with_reducible refine lsx (wp_fld1 hF2 uq3 rfl (by with_unfolding_all exact ⟨_, rfl, rfl⟩) rfl ?_)) | (with_reducible refine lsx (wp_fldA0 hF2 uq28 rfl (by with_unfolding_all exact ⟨_, rfl, rfl⟩) (ds := ds0) (by rw [ds0_len]; kernel_rfl) (take_all _) ?_)) | ((with_reducible refine lsx (wp_fstA0 hF2 (by with_unfolding_all exact ⟨_, _, rfl, rfl, rfl⟩) (by rw [ds0_len]; kernel_rfl) ds0_one (by first | exact Nat.le_of_eq (Nat.zero_add _) | (rw [ds0_len, ds0_len]; decide)) (spl_all (by first | rfl | (rw [ds0_len, ds0_len]))) ?_)); intro w3 hF3 hz3))
  exact bodyPost_ret (results_cellF2 rfl _ hF3 (i := 0) rfl rfl uq28 rfl (by rw [ds0_len]; kernel_rfl)) rfl (by
   unfold MDsc
   rw [hj.out]
   exact ⟨_, _, rfl, VD.zero, hF3.tail⟩)
 have hq : ((k : Int) != 6) = false := by rw [hk]; rfl
 have hnk : nk = ks.length := by omega
 have hnn : ns.length = nk := by rw [hnk]; exact (hobj hk).1
 have hkn : nk ≤ 1048576 := by rw [hnk]; exact hob.small.2.2
 have hkob := box (fun u hu => hob.kid (k := u) hu)
 simp only [JV.kids] at hkob
 obtain ⟨J, hJ0⟩ : ∃ J, J = mDesc (.mk k n t ns ks) := ⟨_, rfl⟩
 have hJ : Box (J = mDescL .zero ⟨false, false, false⟩ (ns.drop 0) (ks.drop 0)) := box (by rw [hJ0, List.drop_zero, List.drop_zero]; exact if_pos hk)
 rw [← hJ0]
 have hnn2 : nn = nk := by omega
 subst hnn2
 replace hk := box hk
 replace hnk := box hnk
 replace hnn := box hnn
 replace hvk := box hvk
 clear hobj hkl hnl hJ0 hob
 go_enter Tryz.func92, Tryz.ntmps92
 go_wp2_with (first | ((with_reducible refine lsx (wp_fbox hF0 (cs := (vlL k n ⟨t.toArray⟩ (.slice An nn cn) (.slice Ak nn ck))) rfl (by with_unfolding_all rfl) (by with_unfolding_all rfl) ?_)); intro w1 g1 hF1 hz1) | ((with_reducible refine lsx (wp_falloc hF1 (cs := ds0) (z := .agg (List.toArray (ds0))) rfl (by kernel_rfl) (by with_unfolding_all rfl) ?_)); intro w2 g2 hF2 hz2) | (with_reducible refine lsx (wp_fld1 hF2 uq3 rfl (by with_unfolding_all exact ⟨_, rfl, rfl⟩) rfl ?_)) | (with_reducible refine lsx (wp_fld1 hF2 uq74 rfl (by with_unfolding_all exact ⟨_, rfl, rfl⟩) rfl ?_)))
 clear hF0 hF1
 go_loopg [3, 4, 18] nn (fun g ev hv iv wr => ∃ (i : Nat) (d : MDesc) (h : MHad) (nt : Value) (TE : List Ent), i ≤ nn ∧ Box (g = nn - i) ∧ iv = .int .i64 (i : Int) ∧ ev = .nilIface ∧ hv = .int .i64 (hadI h) ∧ d.dig.length = 32 ∧ Box (VN d.notes nt TE) ∧ Box (J = mDescL d h (ns.drop i) (ks.drop i)) ∧ Fr [] w wr (.blk g2 28 (dsL d.media d.dig d.size nt) :: .blk g1 76 (vlL k n ⟨t.toArray⟩ (.slice An nn cn) (.slice Ak nn ck)) :: TE))
 case atStart => exact ⟨0, .zero, ⟨false, false, false⟩, _, [], by omega, box rfl, rfl, rfl, rfl, by decide, box VN.nil, hJ, hF2⟩
 case round =>
  clear hF2 hJ
  obtain ⟨i, d, h, nt, TE, hi, hgi, rfl, rfl, rfl, hdl, hnt', hJ, hF⟩ := hrel
  have hkk : Box (_ = nn - i) := hgi
  clear hgi
  have hrk' := hrk.below hF.below
  have hnt := hnt'.out
  obtain ⟨At, lt, ct, _, _, rfl, _⟩ := hnt'.out
  by_cases hlt : i < nn
  ·obtain ⟨u, hu⟩ : ∃ u, ks[i]? = some u := ⟨ks[i]'(by rw [← hnk.out]; exact hlt), by simp⟩
   obtain ⟨s, hs⟩ : ∃ s, ns[i]? = some s := ⟨ns[i]'(by rw [hnn.out]; exact hlt), by simp⟩
   obtain ⟨ci, hci, hvi⟩ := hvk.out.at hu
   have hstep := box (hJ.out.trans (mDescL_go hs hu))
   have hss : Box ((ns.map strv)[i]? = some (.string ⟨s.toArray⟩)) := box (by rw [List.getElem?_map, hs]; rfl)
   have hcil := box hvi.len
   have hcio := box (VRd.ones hvi)
   have hub := box (hkob.out u (List.mem_of_getElem? hu))
   have hus := hub.out.small.1
   have hdig := box (fun d' h' => mdStep_dig (d := d) (d' := d') (h := h) (h' := h') (s := s) (k := u) hdl)
   replace hci := box hci
   clear hu hs hJ
   have hrn' := hrn.below hF.below
   go_upto_block 2 with (first | (with_reducible refine lsx (wp_indexAddr T_vals hrk' (by with_unfolding_all exact ⟨_, _, _, _, rfl, rfl, rfl⟩) (by omega) (by omega) ?_)) | (with_reducible refine lsx (wp_loadA hrk' uq76 rfl (by with_unfolding_all exact ⟨_, rfl, rfl⟩) (ds := ci) (by rw [hcil.out]; kernel_rfl) (by rw [hcil.out]; with_unfolding_all exact hci.out) ?_)) | ((with_reducible refine lsx (wp_falloc hF (cs := vl0) (z := .agg (List.toArray (vl0))) rfl (by kernel_rfl) (by with_unfolding_all rfl) ?_)); intro w22 g22 hF22 hz22) | ((with_reducible refine lsx (wp_fstA0 hF22 (by with_unfolding_all exact ⟨_, _, rfl, rfl, rfl⟩) (by rw [hcil.out]; kernel_rfl) hcio.out (by rw [hcil.out, vlL_len]; decide) (spl_all (by rw [hcil.out, vlL_len])) ?_)); intro w3 hF3 hz3) | (with_reducible refine lsx (wp_fld2 hF3 uq48 rfl (by with_unfolding_all exact ⟨_, rfl, rfl⟩) rfl ?_)) | (have hrn3 := hrn.below hF3.below; (with_reducible refine lsx (wp_indexAddr T_strs hrn3 (by with_unfolding_all exact ⟨_, _, _, _, rfl, rfl, rfl⟩) (by omega) (by omega) ?_))) | (have hrn3 := hrn.below hF3.below; (with_reducible refine lsx (wp_load1C hrn3 hss uq9 rfl (by with_unfolding_all exact ⟨_, rfl, rfl⟩) (by first | (simp; done) | (simp; omega) | omega) ?_))))
   (try simp only [zP, zQ, zS, zZ, zN])
   go_cut [3, 4] (fun ev hv wx => DSt w g1 g2 (vlL k n ⟨t.toArray⟩ (.slice An nn cn) (.slice Ak nn ck)) TE (mdStep d h s u) ev hv wx)
   case first =>
    clear hstep hdig
    by_cases h1 : s = kMedia
    ·have hst : Box (mdStep d h s u = match mMedia u with | .ok t => .ok ({ d with media := t }, { h with a := true }) | .error e => .error e) := box (by unfold mdStep; rw [if_pos h1] <;> (try rfl))
     have hsq : s = [109, 101, 100, 105, 97, 84, 121, 112, 101] := h1
     subst hsq
     clear h1
     go_wp2_with (first | (with_reducible refine lsx (wp_fldA0 hF3 uq76 rfl (by with_unfolding_all exact ⟨_, rfl, rfl⟩) (ds := ci) (by rw [hcil.out]; kernel_rfl) (take_all _) ?_)))
     refine (mmedia_any u ci _ (hM.on hF3.below) (hvi.on hF3.below) hus).mono ?_
     rintro e w4 ⟨rfl, hb4⟩
     have hF4 := hF3.call hb4
     cases hm : mMedia u with
     | ok tt =>
      rw [hm] at hst
      simp only [mStr, mErr, strv]
      go_wp2_with (first | ((with_reducible refine lsx (wp_fst1 hF4 (by with_unfolding_all exact ⟨_, _, rfl, rfl, rfl⟩) (by kernel_rfl) rfl rfl (by rw [dsL_len hdl]; decide) (dsL_0s (m' := tt)) ?_)); intro w5 hF5 hz5))
      go_meet
      rw [hst.out]
      exact ⟨TE, fun _ h => h, rfl, congrArg (Value.int .i64) (had_or1 h), _, hnt, hF5.tail⟩
     | error ee =>
      rw [hm] at hst
      simp only [mStr, mErr, strv]
      go_wp2_with (first | ((with_reducible refine lsx (wp_fst1 hF4 (by with_unfolding_all exact ⟨_, _, rfl, rfl, rfl⟩) (by kernel_rfl) rfl rfl (by rw [dsL_len hdl]; decide) (dsL_0s (m' := [])) ?_)); intro w5 hF5 hz5))
      go_meet
      rw [hst.out]
      exact ⟨TE, fun _ h => h, rfl, ⟨_, rfl⟩, _, _, _, _, hdl, hF5.tail⟩
    have n1 : (s == [109, 101, 100, 105, 97, 84, 121, 112, 101]) = false := by rw [beq_eq_false_iff_ne]; exact h1
    by_cases h2 : s = kDigest
    ·have hst : Box (mdStep d h s u = if u.kind = 4 then (match dgP u.text with | some x => .ok ({ d with dig := x }, { h with b := true }) | none => .error 20) else .error 80) := box (by unfold mdStep; rw [if_neg h1, if_pos h2] <;> (try rfl))
     have hsq : s = [100, 105, 103, 101, 115, 116] := h2
     subst hsq
     clear h1 h2 n1
     go_wp2_with (first | (with_reducible refine lsx (wp_fldA0 hF3 uq76 rfl (by with_unfolding_all exact ⟨_, rfl, rfl⟩) (ds := ci) (by rw [hcil.out]; kernel_rfl) (take_all _) ?_)))
     refine (mtext_any u ci _ _ (hvi.on hF3.below)).mono ?_
     rintro e w4 ⟨rfl, hb4⟩
     have hF4 := hF3.call hb4
     by_cases hu4 : u.kind = 4
     ·rw [if_pos hu4] at hst
      rw [show mText u = .ok u.text from if_pos hu4]
      simp only [mStr, mErr, strv]
      go_wp2_with fail
      refine (dgParse_any ⟨u.text.toArray⟩ _ (by rw [← str_len]; exact Nat.le_trans hus (by decide))).mono ?_
      rintro e w5 ⟨rfl, hb5⟩
      have hF5 := hF4.call hb5
      rw [show (⟨u.text.toArray⟩ : ByteArray).data.toList = u.text from rfl]
      cases hp : dgP u.text with
      | some x =>
       rw [hp] at hst
       have hxl := box (dgP_len hp)
       simp only [Option.getD_some, Option.isSome_some, if_true]
       go_wp2_with (first | ((with_reducible refine lsx (wp_fstA1 hF5 (by with_unfolding_all exact ⟨_, _, rfl, rfl, rfl⟩) (by rw [List.length_map, hxl.out]; kernel_rfl) (bv_one _) (by rw [List.length_map, hxl.out, dsL_len hdl]; decide) (dsL_1 (by rw [hxl.out, hdl])) ?_)); intro w6 hF6 hz6))
       go_meet
       rw [hst.out]
       exact ⟨TE, fun _ h => h, rfl, congrArg (Value.int .i64) (had_or2 h), _, hnt, hF6.tail⟩
      | none =>
       rw [hp] at hst
       have hxl := box (show zeros.length = 32 by decide)
       simp only [Option.getD_none, Option.isSome_none]
       rw [if_neg (by decide)]
       go_wp2_with (first | ((with_reducible refine lsx (wp_fstA1 hF5 (by with_unfolding_all exact ⟨_, _, rfl, rfl, rfl⟩) (by rw [List.length_map, hxl.out]; kernel_rfl) (bv_one _) (by rw [List.length_map, hxl.out, dsL_len hdl]; decide) (dsL_1 (by rw [hxl.out, hdl])) ?_)); intro w6 hF6 hz6))
       go_meet
       rw [hst.out]
       exact ⟨TE, fun _ h => h, rfl, ⟨_, rfl⟩, _, _, _, _, hxl.out, hF6.tail⟩
     ·rw [if_neg hu4] at hst
      rw [show mText u = .error 80 from if_neg hu4]
      simp only [mStr, mErr, strv]
      replace hu4 := box hu4
      go_wp2_with fail
      go_meet
      rw [hst.out]
      exact ⟨TE, fun _ h => h, rfl, ⟨_, rfl⟩, _, _, _, _, hdl, hF4.tail⟩
    have n2 : (s == [100, 105, 103, 101, 115, 116]) = false := by rw [beq_eq_false_iff_ne]; exact h2
    by_cases h3 : s = kSize
    ·have hst : Box (mdStep d h s u = if u.kind = 3 then (if u.num < 0 ∨ 1099511627776 < u.num then .error 81 else .ok ({ d with size := u.num }, { h with c := true })) else .error 80) := box (by unfold mdStep; rw [if_neg h1, if_neg h2, if_pos h3] <;> (try rfl))
     have hsq : s = [115, 105, 122, 101] := h3
     subst hsq
     clear h1 h2 h3 n1 n2
     by_cases hk3 : u.kind = 3
     ·rw [if_pos hk3] at hst
      by_cases hz : u.num < 0
      ·rw [if_pos (.inl hz)] at hst
       obtain ⟨ku, nu, tu, nsu, ksu⟩ := u
       rw [VRd] at hvi
       obtain ⟨Au, au, bu, Bu, cu, du, xu, _, _, rfl, _, _, _⟩ := hvi
       clear hus hcio
       have hq3 : ((ku : Int) != 3) = false := by rw [show ku = 3 from hk3]; rfl
       have hd0 : decide (nu < 0) = true := decide_eq_true hz
       replace hz := box hz
       replace hk3 := box hk3
       go_wp2_with (first | (with_reducible refine lsx (wp_fld0 hF3 uq3 rfl (by with_unfolding_all exact ⟨_, rfl, rfl⟩) rfl ?_)) | ((with_reducible refine lsx (wp_fst1 hF3 (by with_unfolding_all exact ⟨_, _, rfl, rfl, rfl⟩) (by kernel_rfl) rfl rfl (by rw [dsL_len hdl]; decide) (dsL_33 (z' := nu) hdl) ?_)); intro w6 hF6 hz6))
       go_meet
       rw [hst.out]
       exact ⟨TE, fun _ h => h, rfl, ⟨_, rfl⟩, _, _, _, _, hdl, hF6.tail⟩
      by_cases hy : 1099511627776 < u.num
      ·rw [if_pos (.inr hy)] at hst
       obtain ⟨ku, nu, tu, nsu, ksu⟩ := u
       rw [VRd] at hvi
       obtain ⟨Au, au, bu, Bu, cu, du, xu, _, _, rfl, _, _, _⟩ := hvi
       clear hus hcio
       have hq3 : ((ku : Int) != 3) = false := by rw [show ku = 3 from hk3]; rfl
       have hd0 : decide (nu < 0) = false := decide_eq_false hz
       have hd1 : decide (1099511627776 < nu) = true := decide_eq_true hy
       replace hz := box hz
       replace hy := box hy
       replace hk3 := box hk3
       go_wp2_with (first | (with_reducible refine lsx (wp_fld0 hF3 uq3 rfl (by with_unfolding_all exact ⟨_, rfl, rfl⟩) rfl ?_)) | ((with_reducible refine lsx (wp_fst1 hF3 (by with_unfolding_all exact ⟨_, _, rfl, rfl, rfl⟩) (by kernel_rfl) rfl rfl (by rw [dsL_len hdl]; decide) (dsL_33 (z' := nu) hdl) ?_)); intro w6 hF6 hz6))
       go_meet
       rw [hst.out]
       exact ⟨TE, fun _ h => h, rfl, ⟨_, rfl⟩, _, _, _, _, hdl, hF6.tail⟩
      rw [if_neg (by rintro (h | h); exact hz h; exact hy h)] at hst
      obtain ⟨ku, nu, tu, nsu, ksu⟩ := u
      rw [VRd] at hvi
      obtain ⟨Au, au, bu, Bu, cu, du, xu, _, _, rfl, _, _, _⟩ := hvi
      clear hus hcio
      have hq3 : ((ku : Int) != 3) = false := by rw [show ku = 3 from hk3]; rfl
      have hd0 : decide (nu < 0) = false := decide_eq_false hz
      have hd1 : decide (1099511627776 < nu) = false := decide_eq_false hy
      replace hz := box hz
      replace hy := box hy
      replace hk3 := box hk3
      go_wp2_with (first | (with_reducible refine lsx (wp_fld0 hF3 uq3 rfl (by with_unfolding_all exact ⟨_, rfl, rfl⟩) rfl ?_)) | ((with_reducible refine lsx (wp_fst1 hF3 (by with_unfolding_all exact ⟨_, _, rfl, rfl, rfl⟩) (by kernel_rfl) rfl rfl (by rw [dsL_len hdl]; decide) (dsL_33 (z' := nu) hdl) ?_)); intro w6 hF6 hz6))
      go_meet
      rw [hst.out]
      exact ⟨TE, fun _ h => h, rfl, congrArg (Value.int .i64) (had_or4 h), _, hnt, hF6.tail⟩
     rw [if_neg hk3] at hst
     obtain ⟨ku, nu, tu, nsu, ksu⟩ := u
     rw [VRd] at hvi
     obtain ⟨Au, au, bu, Bu, cu, du, xu, _, _, rfl, _, _, _⟩ := hvi
     clear hus hcio
     have hq3 : ((ku : Int) != 3) = true := by rw [bne_iff_ne]; exact hk3
     replace hk3 := box hk3
     go_wp2_with (first | (with_reducible refine lsx (wp_fld0 hF3 uq3 rfl (by with_unfolding_all exact ⟨_, rfl, rfl⟩) rfl ?_)) | ((with_reducible refine lsx (wp_fst1 hF3 (by with_unfolding_all exact ⟨_, _, rfl, rfl, rfl⟩) (by kernel_rfl) rfl rfl (by rw [dsL_len hdl]; decide) (dsL_33 (z' := nu) hdl) ?_)); intro w6 hF6 hz6))
     go_meet
     rw [hst.out]
     exact ⟨TE, fun _ h => h, rfl, ⟨_, rfl⟩, _, _, _, _, hdl, hF6.tail⟩
    have n3 : (s == [115, 105, 122, 101]) = false := by rw [beq_eq_false_iff_ne]; exact h3
    by_cases h4 : s = kNotes
    ·have hst : Box (mdStep d h s u = match mNotes u with | .ok l => .ok ({ d with notes := l }, h) | .error e => .error e) := box (by unfold mdStep; rw [if_neg h1, if_neg h2, if_neg h3, if_pos h4] <;> (try rfl))
     have hsq : s = [97, 110, 110, 111, 116, 97, 116, 105, 111, 110, 115] := h4
     subst hsq
     clear h1 h2 h3 h4 n1 n2 n3
     go_wp2_with (first | (with_reducible refine lsx (wp_fldA0 hF3 uq76 rfl (by with_unfolding_all exact ⟨_, rfl, rfl⟩) (ds := ci) (by rw [hcil.out]; kernel_rfl) (take_all _) ?_)))
     refine (mnotes_any u ci _ (hvi.on hF3.below) hub.out).mono ?_
     rintro e w4 ⟨nt4, es4, rfl, hnt4, hn4⟩
     have hF4 := hF3.joinR hn4
     simp only [List.cons_append] at hF4
     obtain ⟨A4, l4, c4, hlc4, hll4, rfl, hm4⟩ := hnt4
     cases hm : mNotes u with
     | ok l =>
      rw [hm] at hst
      simp only [mErr]
      rw [hm] at hll4 hm4
      replace hll4 := box hll4
      go_wp2_with (first | ((with_reducible refine lsx (wp_fst1 hF4 (by with_unfolding_all exact ⟨_, _, rfl, rfl, rfl⟩) (by kernel_rfl) rfl rfl (by rw [dsL_len hdl]; decide) (dsL_34 (nt' := .slice A4 l4 c4) hdl) ?_)); intro w5 hF5 hz5))
      go_meet
      rw [hst.out]
      exact ⟨TE ++ es4, fun _ h => List.mem_append_left _ h, rfl, rfl, _, ⟨A4, l4, c4, hlc4, hll4.out, rfl, hm4.imp id (List.mem_append_right _)⟩, hF5.tail⟩
     | error ee =>
      rw [hm] at hst
      replace hll4 := box hll4
      simp only [mErr]
      go_wp2_with (first | ((with_reducible refine lsx (wp_fst1 hF4 (by with_unfolding_all exact ⟨_, _, rfl, rfl, rfl⟩) (by kernel_rfl) rfl rfl (by rw [dsL_len hdl]; decide) (dsL_34 (nt' := .slice A4 l4 c4) hdl) ?_)); intro w5 hF5 hz5))
      go_meet
      rw [hst.out]
      exact ⟨TE ++ es4, fun _ h => List.mem_append_left _ h, rfl, ⟨_, rfl⟩, _, _, _, _, hdl, hF5.tail⟩
    have n4 : (s == [97, 110, 110, 111, 116, 97, 116, 105, 111, 110, 115]) = false := by rw [beq_eq_false_iff_ne]; exact h4
    have hst : Box (mdStep d h s u = .error 80) := box (by unfold mdStep; rw [if_neg h1, if_neg h2, if_neg h3, if_neg h4])
    clear h1 h2 h3 h4
    go_wp2_with fail
    go_meet
    rw [hst.out]
    exact ⟨TE, fun _ h => h, rfl, ⟨_, rfl⟩, _, _, _, _, hdl, hF3.tail⟩
   case rest =>
    obtain ⟨TE', hTE, hc⟩ := hcut
    cases hm : mdStep d h s u with
    | error e =>
     rw [hm] at hc hstep
     obtain ⟨rfl, ⟨z, rfl⟩, m5, d5, z5, n5, hl5, hF5⟩ := hc
     clear hm hF hF22 hF3
     go_wp2_with (first | (with_reducible refine lsx (wp_fbuild uq28 (z := .agg (List.toArray ds0)) (by kernel_rfl) (pl := dsP) (by kernel_rfl) (cs := ds0) rfl (vs := []) (by with_unfolding_all rfl) (by with_unfolding_all rfl) ?_)) | ((with_reducible refine lsx (wp_fstA0 hF5 (by with_unfolding_all exact ⟨_, _, rfl, rfl, rfl⟩) (by rw [ds0_len]; kernel_rfl) ds0_one (by first | exact Nat.le_of_eq (Nat.zero_add _) | (rw [ds0_len, dsL_len hl5]; decide)) (spl_all (by first | rfl | (rw [ds0_len, dsL_len hl5]))) ?_)); intro w6 hF6 hz6))
     exact bodyPost_ret (results_cellF2 rfl _ hF6 (i := 0) rfl rfl uq28 rfl (by rw [ds0_len]; kernel_rfl)) rfl (by
      unfold MDsc
      rw [hstep.out]
      exact ⟨_, _, rfl, VD.zero, hF6.tail.tail⟩)
    | ok x =>
     obtain ⟨d', h'⟩ := x
     have hd' := hdig.out d' h' hm
     rw [hm] at hc hstep
     simp only [] at hc hstep
     obtain ⟨rfl, rfl, nt', hnt', hF5⟩ := hc
     clear hm hF hF22 hF3
     replace hnt' := box hnt'
     go_wp2_with fail
     go_roundg (nn - (i + 1))
     case rel => exact ⟨i + 1, d', h', nt', TE', by omega, box rfl, by go_num, rfl, rfl, hd', hnt', hstep, hF5⟩
     case measure => have := hkk.out; omega
  ·have hend := hJ.out.trans (mDescL_end (by rw [← hnk.out]; omega))
   obtain rfl : nn = i := by omega
   have h7 := had_7 h
   by_cases hall : h.a = true ∧ h.b = true ∧ h.c = true
   ·rw [if_pos hall] at hend
    rw [hall.1, hall.2.1, hall.2.2] at h7
    replace h7 : ((hadI h : Int) != 7) = false := h7
    replace hend := box hend
    clear hall
    go_wp2_with (first | (with_reducible refine lsx (wp_fldA0 hF uq28 rfl (by with_unfolding_all exact ⟨_, rfl, rfl⟩) (ds := (dsL d.media d.dig d.size (.slice At lt ct))) (by rw [dsL_len hdl]; kernel_rfl) (take_all _) ?_)) | ((with_reducible refine lsx (wp_fstA0 hF (by with_unfolding_all exact ⟨_, _, rfl, rfl, rfl⟩) (by rw [dsL_len hdl]; kernel_rfl) dsL_one (by rw [dsL_len hdl]; decide) (spl_all rfl) ?_)); intro w6 hF6 hz6))
    exact bodyPost_ret (results_cellF2 rfl _ hF6 (i := 0) rfl rfl uq28 rfl (by rw [dsL_len hdl]; kernel_rfl)) rfl (by
     unfold MDsc
     rw [hend.out]
     exact ⟨_, _, rfl, ⟨_, hdl, hnt'.out, rfl⟩, hF6.tail.tail⟩)
   ·rw [if_neg hall] at hend
    have h7' : ((hadI h : Int) != 7) = true := by
     rw [h7]
     obtain ⟨a, b, c⟩ := h
     cases a <;> cases b <;> cases c <;> simp at hall ⊢
    replace hend := box hend
    clear hall h7
    go_wp2_with (first | (with_reducible refine lsx (wp_fbuild uq28 (z := .agg (List.toArray ds0)) (by kernel_rfl) (pl := dsP) (by kernel_rfl) (cs := ds0) rfl (vs := []) (by with_unfolding_all rfl) (by with_unfolding_all rfl) ?_)) | ((with_reducible refine lsx (wp_fstA0 hF (by with_unfolding_all exact ⟨_, _, rfl, rfl, rfl⟩) (by rw [ds0_len]; kernel_rfl) ds0_one (by first | exact Nat.le_of_eq (Nat.zero_add _) | (rw [ds0_len, dsL_len hdl]; decide)) (spl_all (by first | rfl | (rw [ds0_len, dsL_len hdl]))) ?_)); intro w6 hF6 hz6))
    exact bodyPost_ret (results_cellF2 rfl _ hF6 (i := 0) rfl rfl uq28 rfl (by rw [ds0_len]; kernel_rfl)) rfl (by
     unfold MDsc
     rw [hend.out]
     exact ⟨_, _, rfl, VD.zero, hF6.tail.tail⟩)
end Go.Proofs.YtlhicfpmlncomaaGreatDoor

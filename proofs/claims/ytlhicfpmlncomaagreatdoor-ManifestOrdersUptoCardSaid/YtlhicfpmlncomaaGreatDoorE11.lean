/-
 Layer 8: the program's desc, walked.
 Layer 8: the program's edges, walked.
 Layer 8, plain law: the document's way to read a value goes as the program's. No program is named here.
-/
import Derived.Test.YtlhicfpmlncomaaGreatDoorE10
import Derived.Test.YtlhicfpmlncomaaGreatDoorE02
import Derived.Test.YtlhicfpmlncomaaGreatDoorE09
namespace Go.Proofs.YtlhicfpmlncomaaGreatDoor
open Go.RowKit
set_option linter.unusedSimpArgs false
set_option linter.unusedVariables false
def hadI (h : MHad) : Int := (if h.a = true then 1 else 0) + (if h.b = true then 2 else 0) + (if h.c = true then 4 else 0)
theorem had_or1 (h : MHad) : bits BinOp.or IntKind.i64 (hadI h) 1 = hadI { h with a := true } := by obtain ⟨a, b, c⟩ := h; cases a <;> cases b <;> cases c <;> rfl
theorem had_or2 (h : MHad) : bits BinOp.or IntKind.i64 (hadI h) 2 = hadI { h with b := true } := by obtain ⟨a, b, c⟩ := h; cases a <;> cases b <;> cases c <;> rfl
theorem had_or4 (h : MHad) : bits BinOp.or IntKind.i64 (hadI h) 4 = hadI { h with c := true } := by obtain ⟨a, b, c⟩ := h; cases a <;> cases b <;> cases c <;> rfl
theorem had_7 (h : MHad) : ((hadI h : Int) != 7) = !(h.a && (h.b && h.c)) := by obtain ⟨a, b, c⟩ := h; cases a <;> cases b <;> cases c <;> rfl
theorem mDescL_go {ns : List (List UInt8)} {ks : List JV} {i : Nat} {s : List UInt8} {k : JV} {d : MDesc} {h : MHad} (hs : ns[i]? = some s) (hk : ks[i]? = some k) : mDescL d h (ns.drop i) (ks.drop i) = match mdStep d h s k with
  | .ok x => mDescL x.1 x.2 (ns.drop (i + 1)) (ks.drop (i + 1))
  | .error e => .error e := by
 rw [List.drop_eq_getElem_cons (List.getElem?_eq_some_iff.1 hs).1, (List.getElem?_eq_some_iff.1 hs).2, List.drop_eq_getElem_cons (List.getElem?_eq_some_iff.1 hk).1, (List.getElem?_eq_some_iff.1 hk).2, mDescL]
 cases mdStep d h s k <;> rfl
theorem mDescL_end {ns : List (List UInt8)} {ks : List JV} {i : Nat} {d : MDesc} {h : MHad} (hk : ks.length ≤ i) : mDescL d h (ns.drop i) (ks.drop i) = if h.a = true ∧ h.b = true ∧ h.c = true then .ok d else .error 80 := by
 rw [List.drop_of_length_le hk]
 cases ns.drop i <;> (rw [mDescL]; intros; rename_i h1 h2; cases h2)
theorem mdStep_dig {d d' : MDesc} {h h' : MHad} {s : List UInt8} {k : JV} (hd : d.dig.length = 32) (hs : mdStep d h s k = .ok (d', h')) : d'.dig.length = 32 := by
 unfold mdStep at hs
 split at hs
 ·cases hm : mMedia k with
  | error e => rw [hm] at hs; cases hs
  | ok t => rw [hm] at hs; cases hs; exact hd
 ·split at hs
  ·split at hs
   ·cases hm : dgP k.text with
    | none => rw [hm] at hs; cases hs
    | some x => rw [hm] at hs; cases hs; exact dgP_len hm
   ·cases hs
  ·split at hs
   ·split at hs
    ·split at hs
     ·cases hs
     ·cases hs; exact hd
    ·cases hs
   ·split at hs
    ·cases hm : mNotes k with
     | error e => rw [hm] at hs; cases hs
     | ok t => rw [hm] at hs; cases hs; exact hd
    ·cases hs
def dsP : List (Nat × Nat) := [(0, 1), (1, 32), (33, 1), (34, 1)]
def mDs (r : MR MDesc) : MDesc := match r with
 | .ok d => d
 | .error _ => .zero
/-- A descriptor is told, or an error. -/
def MDsc (w : World) (r : MR MDesc) (e : Ending) (w' : World) : Prop := ∃ cs es, e = .returned (.tuple #[.agg cs.toArray, mErr r]) ∧ VD (mDs r) cs es ∧ Fr [] w w' es
/-- Where a descriptor's reading stands behind a member: the error, what was had, the memory. -/
def DSt (w : World) (g1 g2 : Nat) (vl : List Value) (TE : List Ent) (r : MR (MDesc × MHad)) (e3 h4 : Value) (wx : World) : Prop :=
 ∃ TE', (∀ e ∈ TE, e ∈ TE') ∧ match r with
  | .ok x => e3 = .nilIface ∧ h4 = .int .i64 (hadI x.2) ∧ ∃ nt, VN x.1.notes nt TE' ∧ Fr [] w wx (.blk g2 28 (dsL x.1.media x.1.dig x.1.size nt) :: .blk g1 76 vl :: TE')
  | .error e => e3 = .iface 84 (.agg #[.int .i64 (e : Int)]) ∧ (∃ z, h4 = .int .i64 z) ∧ ∃ m dg z nt, dg.length = 32 ∧ Fr [] w wx (.blk g2 28 (dsL m dg z nt) :: .blk g1 76 vl :: TE')
set_option maxRecDepth 20000 in
set_option maxHeartbeats 12800000 in
theorem mdesc_any (v : JV) (cs : List Value) (w : World) (hM : MaxW w) (hv : VRd w (· < w.heap.size) v cs) (hob : JOb v) :
  Calls Tryz.prog 92 #[.agg cs.toArray] w (MDsc w (mDesc v)) := by
 obtain ⟨k, n, t, ns, ks⟩ := v
 rw [VRd] at hv
 obtain ⟨An, nn, cn, Ak, nk, ck, xs, hcn, hck, rfl, hrn, hrk, hvk⟩ := hv
 have hF0 := Fr.nil w
 have hkl := hvk.len
 rw [hrk.len] at hkl
 have hnl := hrn.len
 rw [List.length_map, Nat.mul_one] at hnl
 have hobj := hob.obj
 simp only [JV.kind, JV.names, JV.kids] at hobj
 by_cases hk : k = 6
 rotate_left
 ·have hj : Box (mDesc (.mk k n t ns ks) = .error 80) := box (if_neg hk)
  have hq : ((k : Int) != 6) = true := by rw [bne_iff_ne]; exact hk
  replace hk := box hk
  clear hobj
  go_enter Tryz.func92, Tryz.ntmps92
  go_wp2_with (first | ((with_reducible refine lst (by with_unfolding_all rfl) (wp_fbox hF0 (cs := (vlL k n ⟨t.toArray⟩ (.slice An nn cn) (.slice Ak nk ck))) rfl (by with_unfolding_all rfl) (by with_unfolding_all rfl) ?_)); intro w1 g1 hF1 hz1) | ((with_reducible refine lst (by with_unfolding_all rfl) (wp_falloc hF1 (cs := ds0) (z := .agg (List.toArray (ds0))) rfl (by kernel_rfl) (by with_unfolding_all rfl) ?_)); intro w2 g2 hF2 hz2) | (with_reducible refine lst (by with_unfolding_all rfl) (wp_fld1 hF2 Tryz.underlying3 rfl (by with_unfolding_all exact ⟨_, rfl, rfl⟩) rfl ?_)) | (with_reducible refine lst (by with_unfolding_all rfl) (wp_fldA0 hF2 Tryz.underlying28 rfl (by with_unfolding_all exact ⟨_, rfl, rfl⟩) (ds := ds0) (by rw [ds0_len]; kernel_rfl) (take_all _) ?_)) | ((with_reducible refine lst (by with_unfolding_all rfl) (wp_fstA0 hF2 (by with_unfolding_all exact ⟨_, _, rfl, rfl, rfl⟩) (by rw [ds0_len]; kernel_rfl) ds0_one (by first | exact Nat.le_of_eq (Nat.zero_add _) | (rw [ds0_len, ds0_len]; decide)) (spl_all (by first | rfl | (rw [ds0_len, ds0_len]))) ?_)); intro w3 hF3 hz3))
  exact bodyPost_ret (results_cellF2 rfl _ hF3 (i := 0) rfl rfl Tryz.underlying28 rfl (by rw [ds0_len]; kernel_rfl)) rfl (by
   unfold MDsc
   rw [hj.out]
   exact ⟨_, _, rfl, VD.zero, hF3.tail⟩)
 have hq : ((k : Int) != 6) = false := by rw [hk]; rfl
 have hnk : nk = ks.length := by omega
 have hnn : ns.length = nk := by rw [hnk]; exact (hobj hk).1
 have hkn : nk ≤ 1048576 := by rw [hnk]; exact hob.small.2.2
 have hkob := box (fun u hu => hob.kid (k := u) hu)
 simp only [JV.kids] at hkob
 obtain ⟨J, hJ0⟩ : ∃ J, J = mDesc (.mk k n t ns ks) := ⟨_, rfl⟩
 have hJ : Box (J = mDescL .zero ⟨false, false, false⟩ (ns.drop 0) (ks.drop 0)) := box (by rw [hJ0, List.drop_zero, List.drop_zero]; exact if_pos hk)
 rw [← hJ0]
 have hnn2 : nn = nk := by omega
 subst hnn2
 replace hk := box hk
 replace hnk := box hnk
 replace hnn := box hnn
 replace hvk := box hvk
 clear hobj hkl hnl hJ0 hob
 go_enter Tryz.func92, Tryz.ntmps92
 go_wp2_with (first | ((with_reducible refine lst (by with_unfolding_all rfl) (wp_fbox hF0 (cs := (vlL k n ⟨t.toArray⟩ (.slice An nn cn) (.slice Ak nn ck))) rfl (by with_unfolding_all rfl) (by with_unfolding_all rfl) ?_)); intro w1 g1 hF1 hz1) | ((with_reducible refine lst (by with_unfolding_all rfl) (wp_falloc hF1 (cs := ds0) (z := .agg (List.toArray (ds0))) rfl (by kernel_rfl) (by with_unfolding_all rfl) ?_)); intro w2 g2 hF2 hz2) | (with_reducible refine lst (by with_unfolding_all rfl) (wp_fld1 hF2 Tryz.underlying3 rfl (by with_unfolding_all exact ⟨_, rfl, rfl⟩) rfl ?_)) | (with_reducible refine lst (by with_unfolding_all rfl) (wp_fld1 hF2 Tryz.underlying74 rfl (by with_unfolding_all exact ⟨_, rfl, rfl⟩) rfl ?_)))
 clear hF0 hF1
 go_loopg [3, 4, 18] nn (fun g ev hv iv wr => ∃ (i : Nat) (d : MDesc) (h : MHad) (nt : Value) (TE : List Ent), i ≤ nn ∧ Box (g = nn - i) ∧ iv = .int .i64 (i : Int) ∧ ev = .nilIface ∧ hv = .int .i64 (hadI h) ∧ d.dig.length = 32 ∧ Box (VN d.notes nt TE) ∧ Box (J = mDescL d h (ns.drop i) (ks.drop i)) ∧ Fr [] w wr (.blk g2 28 (dsL d.media d.dig d.size nt) :: .blk g1 76 (vlL k n ⟨t.toArray⟩ (.slice An nn cn) (.slice Ak nn ck)) :: TE))
 case atStart => exact ⟨0, .zero, ⟨false, false, false⟩, _, [], by omega, box rfl, rfl, rfl, rfl, by decide, box VN.nil, hJ, hF2⟩
 case round =>
  clear hF2 hJ
  obtain ⟨i, d, h, nt, TE, hi, hgi, rfl, rfl, rfl, hdl, hnt', hJ, hF⟩ := hrel
  have hkk : Box (_ = nn - i) := hgi
  clear hgi
  have hrk' := hrk.below hF.below
  have hnt := hnt'.out
  obtain ⟨At, lt, ct, _, _, rfl, _⟩ := hnt'.out
  by_cases hlt : i < nn
  ·obtain ⟨u, hu⟩ : ∃ u, ks[i]? = some u := ⟨ks[i]'(by rw [← hnk.out]; exact hlt), by simp⟩
   obtain ⟨s, hs⟩ : ∃ s, ns[i]? = some s := ⟨ns[i]'(by rw [hnn.out]; exact hlt), by simp⟩
   obtain ⟨ci, hci, hvi⟩ := hvk.out.at hu
   have hstep := box (hJ.out.trans (mDescL_go hs hu))
   have hss : Box ((ns.map strv)[i]? = some (.string ⟨s.toArray⟩)) := box (by rw [List.getElem?_map, hs]; rfl)
   have hcil := box hvi.len
   have hcio := box (VRd.ones hvi)
   have hub := box (hkob.out u (List.mem_of_getElem? hu))
   have hus := hub.out.small.1
   have hdig := box (fun d' h' => mdStep_dig (d := d) (d' := d') (h := h) (h' := h') (s := s) (k := u) hdl)
   replace hci := box hci
   clear hu hs hJ
   have hrn' := hrn.below hF.below
   go_upto_block 2 with (first | (with_reducible refine lst (by with_unfolding_all rfl) (wp_indexAddr T_vals hrk' (by with_unfolding_all exact ⟨_, _, _, _, rfl, rfl, rfl⟩) (by omega) (by omega) ?_)) | (with_reducible refine lst (by with_unfolding_all rfl) (wp_loadA hrk' Tryz.underlying76 rfl (by with_unfolding_all exact ⟨_, rfl, rfl⟩) (ds := ci) (by rw [hcil.out]; kernel_rfl) (by rw [hcil.out]; with_unfolding_all exact hci.out) ?_)) | ((with_reducible refine lst (by with_unfolding_all rfl) (wp_falloc hF (cs := vl0) (z := .agg (List.toArray (vl0))) rfl (by kernel_rfl) (by with_unfolding_all rfl) ?_)); intro w22 g22 hF22 hz22) | ((with_reducible refine lst (by with_unfolding_all rfl) (wp_fstA0 hF22 (by with_unfolding_all exact ⟨_, _, rfl, rfl, rfl⟩) (by rw [hcil.out]; kernel_rfl) hcio.out (by rw [hcil.out, vlL_len]; decide) (spl_all (by rw [hcil.out, vlL_len])) ?_)); intro w3 hF3 hz3) | (with_reducible refine lst (by with_unfolding_all rfl) (wp_fld2 hF3 Tryz.underlying48 rfl (by with_unfolding_all exact ⟨_, rfl, rfl⟩) rfl ?_)) | (have hrn3 := hrn.below hF3.below; (with_reducible refine lst (by with_unfolding_all rfl) (wp_indexAddr T_strs hrn3 (by with_unfolding_all exact ⟨_, _, _, _, rfl, rfl, rfl⟩) (by omega) (by omega) ?_))) | (have hrn3 := hrn.below hF3.below; (with_reducible refine lst (by with_unfolding_all rfl) (wp_load1C hrn3 hss Tryz.underlying9 rfl (by with_unfolding_all exact ⟨_, rfl, rfl⟩) (by first | (simp; done) | (simp; omega) | omega) ?_))))
   (try simp only [Act.put, List.setIfInBounds_toArray, List.set_cons_zero, List.set_cons_succ])
   go_cut [3, 4] (fun ev hv wx => DSt w g1 g2 (vlL k n ⟨t.toArray⟩ (.slice An nn cn) (.slice Ak nn ck)) TE (mdStep d h s u) ev hv wx)
   case first =>
    clear hstep hdig
    by_cases h1 : s = kMedia
    ·have hst : Box (mdStep d h s u = match mMedia u with | .ok t => .ok ({ d with media := t }, { h with a := true }) | .error e => .error e) := box (by unfold mdStep; rw [if_pos h1] <;> (try rfl))
     have hsq : s = [109, 101, 100, 105, 97, 84, 121, 112, 101] := h1
     subst hsq
     clear h1
     go_wp2_with (first | (with_reducible refine lst (by with_unfolding_all rfl) (wp_fldA0 hF3 Tryz.underlying76 rfl (by with_unfolding_all exact ⟨_, rfl, rfl⟩) (ds := ci) (by rw [hcil.out]; kernel_rfl) (take_all _) ?_)))
     refine (mmedia_any u ci _ (hM.on hF3.below) (hvi.on hF3.below) hus).mono ?_
     rintro e w4 ⟨rfl, hb4⟩
     have hF4 := hF3.call hb4
     cases hm : mMedia u with
     | ok tt =>
      rw [hm] at hst
      simp only [mStr, mErr, strv]
      go_wp2_with (first | ((with_reducible refine lst (by with_unfolding_all rfl) (wp_fst1 hF4 (by with_unfolding_all exact ⟨_, _, rfl, rfl, rfl⟩) (by kernel_rfl) rfl rfl (by rw [dsL_len hdl]; decide) (dsL_0s (m' := tt)) ?_)); intro w5 hF5 hz5))
      go_meet
      rw [hst.out]
      exact ⟨TE, fun _ h => h, rfl, congrArg (Value.int .i64) (had_or1 h), _, hnt, hF5.tail⟩
     | error ee =>
      rw [hm] at hst
      simp only [mStr, mErr, strv]
      go_wp2_with (first | ((with_reducible refine lst (by with_unfolding_all rfl) (wp_fst1 hF4 (by with_unfolding_all exact ⟨_, _, rfl, rfl, rfl⟩) (by kernel_rfl) rfl rfl (by rw [dsL_len hdl]; decide) (dsL_0s (m' := [])) ?_)); intro w5 hF5 hz5))
      go_meet
      rw [hst.out]
      exact ⟨TE, fun _ h => h, rfl, ⟨_, rfl⟩, _, _, _, _, hdl, hF5.tail⟩
    have n1 : (s == [109, 101, 100, 105, 97, 84, 121, 112, 101]) = false := by rw [beq_eq_false_iff_ne]; exact h1
    by_cases h2 : s = kDigest
    ·have hst : Box (mdStep d h s u = if u.kind = 4 then (match dgP u.text with | some x => .ok ({ d with dig := x }, { h with b := true }) | none => .error 20) else .error 80) := box (by unfold mdStep; rw [if_neg h1, if_pos h2] <;> (try rfl))
     have hsq : s = [100, 105, 103, 101, 115, 116] := h2
     subst hsq
     clear h1 h2 n1
     go_wp2_with (first | (with_reducible refine lst (by with_unfolding_all rfl) (wp_fldA0 hF3 Tryz.underlying76 rfl (by with_unfolding_all exact ⟨_, rfl, rfl⟩) (ds := ci) (by rw [hcil.out]; kernel_rfl) (take_all _) ?_)))
     refine (mtext_any u ci _ _ (hvi.on hF3.below)).mono ?_
     rintro e w4 ⟨rfl, hb4⟩
     have hF4 := hF3.call hb4
     by_cases hu4 : u.kind = 4
     ·rw [if_pos hu4] at hst
      rw [show mText u = .ok u.text from if_pos hu4]
      simp only [mStr, mErr, strv]
      go_wp2_with fail
      refine (dgParse_any ⟨u.text.toArray⟩ _ (by rw [← str_len]; exact Nat.le_trans hus (by decide))).mono ?_
      rintro e w5 ⟨rfl, hb5⟩
      have hF5 := hF4.call hb5
      rw [show (⟨u.text.toArray⟩ : ByteArray).data.toList = u.text from rfl]
      cases hp : dgP u.text with
      | some x =>
       rw [hp] at hst
       have hxl := box (dgP_len hp)
       simp only [Option.getD_some, Option.isSome_some, if_true]
       go_wp2_with (first | ((with_reducible refine lst (by with_unfolding_all rfl) (wp_fstA1 hF5 (by with_unfolding_all exact ⟨_, _, rfl, rfl, rfl⟩) (by rw [List.length_map, hxl.out]; kernel_rfl) (bv_one _) (by rw [List.length_map, hxl.out, dsL_len hdl]; decide) (dsL_1 (by rw [hxl.out, hdl])) ?_)); intro w6 hF6 hz6))
       go_meet
       rw [hst.out]
       exact ⟨TE, fun _ h => h, rfl, congrArg (Value.int .i64) (had_or2 h), _, hnt, hF6.tail⟩
      | none =>
       rw [hp] at hst
       have hxl := box (show zeros.length = 32 by decide)
       simp only [Option.getD_none, Option.isSome_none]
       rw [if_neg (by decide)]
       go_wp2_with (first | ((with_reducible refine lst (by with_unfolding_all rfl) (wp_fstA1 hF5 (by with_unfolding_all exact ⟨_, _, rfl, rfl, rfl⟩) (by rw [List.length_map, hxl.out]; kernel_rfl) (bv_one _) (by rw [List.length_map, hxl.out, dsL_len hdl]; decide) (dsL_1 (by rw [hxl.out, hdl])) ?_)); intro w6 hF6 hz6))
       go_meet
       rw [hst.out]
       exact ⟨TE, fun _ h => h, rfl, ⟨_, rfl⟩, _, _, _, _, hxl.out, hF6.tail⟩
     ·rw [if_neg hu4] at hst
      rw [show mText u = .error 80 from if_neg hu4]
      simp only [mStr, mErr, strv]
      replace hu4 := box hu4
      go_wp2_with fail
      go_meet
      rw [hst.out]
      exact ⟨TE, fun _ h => h, rfl, ⟨_, rfl⟩, _, _, _, _, hdl, hF4.tail⟩
    have n2 : (s == [100, 105, 103, 101, 115, 116]) = false := by rw [beq_eq_false_iff_ne]; exact h2
    by_cases h3 : s = kSize
    ·have hst : Box (mdStep d h s u = if u.kind = 3 then (if u.num < 0 ∨ 1099511627776 < u.num then .error 81 else .ok ({ d with size := u.num }, { h with c := true })) else .error 80) := box (by unfold mdStep; rw [if_neg h1, if_neg h2, if_pos h3] <;> (try rfl))
     have hsq : s = [115, 105, 122, 101] := h3
     subst hsq
     clear h1 h2 h3 n1 n2
     by_cases hk3 : u.kind = 3
     ·rw [if_pos hk3] at hst
      by_cases hz : u.num < 0
      ·rw [if_pos (.inl hz)] at hst
       obtain ⟨ku, nu, tu, nsu, ksu⟩ := u
       rw [VRd] at hvi
       obtain ⟨Au, au, bu, Bu, cu, du, xu, _, _, rfl, _, _, _⟩ := hvi
       clear hus hcio
       have hq3 : ((ku : Int) != 3) = false := by rw [show ku = 3 from hk3]; rfl
       have hd0 : decide (nu < 0) = true := decide_eq_true hz
       replace hz := box hz
       replace hk3 := box hk3
       go_wp2_with (first | (with_reducible refine lst (by with_unfolding_all rfl) (wp_fld0 hF3 Tryz.underlying3 rfl (by with_unfolding_all exact ⟨_, rfl, rfl⟩) rfl ?_)) | ((with_reducible refine lst (by with_unfolding_all rfl) (wp_fst1 hF3 (by with_unfolding_all exact ⟨_, _, rfl, rfl, rfl⟩) (by kernel_rfl) rfl rfl (by rw [dsL_len hdl]; decide) (dsL_33 (z' := nu) hdl) ?_)); intro w6 hF6 hz6))
       go_meet
       rw [hst.out]
       exact ⟨TE, fun _ h => h, rfl, ⟨_, rfl⟩, _, _, _, _, hdl, hF6.tail⟩
      by_cases hy : 1099511627776 < u.num
      ·rw [if_pos (.inr hy)] at hst
       obtain ⟨ku, nu, tu, nsu, ksu⟩ := u
       rw [VRd] at hvi
       obtain ⟨Au, au, bu, Bu, cu, du, xu, _, _, rfl, _, _, _⟩ := hvi
       clear hus hcio
       have hq3 : ((ku : Int) != 3) = false := by rw [show ku = 3 from hk3]; rfl
       have hd0 : decide (nu < 0) = false := decide_eq_false hz
       have hd1 : decide (1099511627776 < nu) = true := decide_eq_true hy
       replace hz := box hz
       replace hy := box hy
       replace hk3 := box hk3
       go_wp2_with (first | (with_reducible refine lst (by with_unfolding_all rfl) (wp_fld0 hF3 Tryz.underlying3 rfl (by with_unfolding_all exact ⟨_, rfl, rfl⟩) rfl ?_)) | ((with_reducible refine lst (by with_unfolding_all rfl) (wp_fst1 hF3 (by with_unfolding_all exact ⟨_, _, rfl, rfl, rfl⟩) (by kernel_rfl) rfl rfl (by rw [dsL_len hdl]; decide) (dsL_33 (z' := nu) hdl) ?_)); intro w6 hF6 hz6))
       go_meet
       rw [hst.out]
       exact ⟨TE, fun _ h => h, rfl, ⟨_, rfl⟩, _, _, _, _, hdl, hF6.tail⟩
      rw [if_neg (by rintro (h | h); exact hz h; exact hy h)] at hst
      obtain ⟨ku, nu, tu, nsu, ksu⟩ := u
      rw [VRd] at hvi
      obtain ⟨Au, au, bu, Bu, cu, du, xu, _, _, rfl, _, _, _⟩ := hvi
      clear hus hcio
      have hq3 : ((ku : Int) != 3) = false := by rw [show ku = 3 from hk3]; rfl
      have hd0 : decide (nu < 0) = false := decide_eq_false hz
      have hd1 : decide (1099511627776 < nu) = false := decide_eq_false hy
      replace hz := box hz
      replace hy := box hy
      replace hk3 := box hk3
      go_wp2_with (first | (with_reducible refine lst (by with_unfolding_all rfl) (wp_fld0 hF3 Tryz.underlying3 rfl (by with_unfolding_all exact ⟨_, rfl, rfl⟩) rfl ?_)) | ((with_reducible refine lst (by with_unfolding_all rfl) (wp_fst1 hF3 (by with_unfolding_all exact ⟨_, _, rfl, rfl, rfl⟩) (by kernel_rfl) rfl rfl (by rw [dsL_len hdl]; decide) (dsL_33 (z' := nu) hdl) ?_)); intro w6 hF6 hz6))
      go_meet
      rw [hst.out]
      exact ⟨TE, fun _ h => h, rfl, congrArg (Value.int .i64) (had_or4 h), _, hnt, hF6.tail⟩
     rw [if_neg hk3] at hst
     obtain ⟨ku, nu, tu, nsu, ksu⟩ := u
     rw [VRd] at hvi
     obtain ⟨Au, au, bu, Bu, cu, du, xu, _, _, rfl, _, _, _⟩ := hvi
     clear hus hcio
     have hq3 : ((ku : Int) != 3) = true := by rw [bne_iff_ne]; exact hk3
     replace hk3 := box hk3
     go_wp2_with (first | (with_reducible refine lst (by with_unfolding_all rfl) (wp_fld0 hF3 Tryz.underlying3 rfl (by with_unfolding_all exact ⟨_, rfl, rfl⟩) rfl ?_)) | ((with_reducible refine lst (by with_unfolding_all rfl) (wp_fst1 hF3 (by with_unfolding_all exact ⟨_, _, rfl, rfl, rfl⟩) (by kernel_rfl) rfl rfl (by rw [dsL_len hdl]; decide) (dsL_33 (z' := nu) hdl) ?_)); intro w6 hF6 hz6))
     go_meet
     rw [hst.out]
     exact ⟨TE, fun _ h => h, rfl, ⟨_, rfl⟩, _, _, _, _, hdl, hF6.tail⟩
    have n3 : (s == [115, 105, 122, 101]) = false := by rw [beq_eq_false_iff_ne]; exact h3
    by_cases h4 : s = kNotes
    ·have hst : Box (mdStep d h s u = match mNotes u with | .ok l => .ok ({ d with notes := l }, h) | .error e => .error e) := box (by unfold mdStep; rw [if_neg h1, if_neg h2, if_neg h3, if_pos h4] <;> (try rfl))
     have hsq : s = [97, 110, 110, 111, 116, 97, 116, 105, 111, 110, 115] := h4
     subst hsq
     clear h1 h2 h3 h4 n1 n2 n3
     go_wp2_with (first | (with_reducible refine lst (by with_unfolding_all rfl) (wp_fldA0 hF3 Tryz.underlying76 rfl (by with_unfolding_all exact ⟨_, rfl, rfl⟩) (ds := ci) (by rw [hcil.out]; kernel_rfl) (take_all _) ?_)))
     refine (mnotes_any u ci _ (hvi.on hF3.below) hub.out).mono ?_
     rintro e w4 ⟨nt4, es4, rfl, hnt4, hn4⟩
     have hF4 := hF3.joinR hn4
     simp only [List.cons_append] at hF4
     obtain ⟨A4, l4, c4, hlc4, hll4, rfl, hm4⟩ := hnt4
     cases hm : mNotes u with
     | ok l =>
      rw [hm] at hst
      simp only [mErr]
      rw [hm] at hll4 hm4
      replace hll4 := box hll4
      go_wp2_with (first | ((with_reducible refine lst (by with_unfolding_all rfl) (wp_fst1 hF4 (by with_unfolding_all exact ⟨_, _, rfl, rfl, rfl⟩) (by kernel_rfl) rfl rfl (by rw [dsL_len hdl]; decide) (dsL_34 (nt' := .slice A4 l4 c4) hdl) ?_)); intro w5 hF5 hz5))
      go_meet
      rw [hst.out]
      exact ⟨TE ++ es4, fun _ h => List.mem_append_left _ h, rfl, rfl, _, ⟨A4, l4, c4, hlc4, hll4.out, rfl, hm4.imp id (List.mem_append_right _)⟩, hF5.tail⟩
     | error ee =>
      rw [hm] at hst
      replace hll4 := box hll4
      simp only [mErr]
      go_wp2_with (first | ((with_reducible refine lst (by with_unfolding_all rfl) (wp_fst1 hF4 (by with_unfolding_all exact ⟨_, _, rfl, rfl, rfl⟩) (by kernel_rfl) rfl rfl (by rw [dsL_len hdl]; decide) (dsL_34 (nt' := .slice A4 l4 c4) hdl) ?_)); intro w5 hF5 hz5))
      go_meet
      rw [hst.out]
      exact ⟨TE ++ es4, fun _ h => List.mem_append_left _ h, rfl, ⟨_, rfl⟩, _, _, _, _, hdl, hF5.tail⟩
    have n4 : (s == [97, 110, 110, 111, 116, 97, 116, 105, 111, 110, 115]) = false := by rw [beq_eq_false_iff_ne]; exact h4
    have hst : Box (mdStep d h s u = .error 80) := box (by unfold mdStep; rw [if_neg h1, if_neg h2, if_neg h3, if_neg h4])
    clear h1 h2 h3 h4
    go_wp2_with fail
    go_meet
    rw [hst.out]
    exact ⟨TE, fun _ h => h, rfl, ⟨_, rfl⟩, _, _, _, _, hdl, hF3.tail⟩
   case rest =>
    obtain ⟨TE', hTE, hc⟩ := hcut
    cases hm : mdStep d h s u with
    | error e =>
     rw [hm] at hc hstep
     obtain ⟨rfl, ⟨z, rfl⟩, m5, d5, z5, n5, hl5, hF5⟩ := hc
     clear hm hF hF22 hF3
     go_wp2_with (first | (with_reducible refine lst (by with_unfolding_all rfl) (wp_fbuild Tryz.underlying28 (z := .agg (List.toArray ds0)) (by kernel_rfl) (pl := dsP) (by kernel_rfl) (cs := ds0) rfl (vs := []) (by with_unfolding_all rfl) (by with_unfolding_all rfl) ?_)) | ((with_reducible refine lst (by with_unfolding_all rfl) (wp_fstA0 hF5 (by with_unfolding_all exact ⟨_, _, rfl, rfl, rfl⟩) (by rw [ds0_len]; kernel_rfl) ds0_one (by first | exact Nat.le_of_eq (Nat.zero_add _) | (rw [ds0_len, dsL_len hl5]; decide)) (spl_all (by first | rfl | (rw [ds0_len, dsL_len hl5]))) ?_)); intro w6 hF6 hz6))
     exact bodyPost_ret (results_cellF2 rfl _ hF6 (i := 0) rfl rfl Tryz.underlying28 rfl (by rw [ds0_len]; kernel_rfl)) rfl (by
      unfold MDsc
      rw [hstep.out]
      exact ⟨_, _, rfl, VD.zero, hF6.tail.tail⟩)
    | ok x =>
     obtain ⟨d', h'⟩ := x
     have hd' := hdig.out d' h' hm
     rw [hm] at hc hstep
     simp only [] at hc hstep
     obtain ⟨rfl, rfl, nt', hnt', hF5⟩ := hc
     clear hm hF hF22 hF3
     replace hnt' := box hnt'
     go_wp2_with fail
     go_roundg (nn - (i + 1))
     case rel => exact ⟨i + 1, d', h', nt', TE', by omega, box rfl, by go_num, rfl, rfl, hd', hnt', hstep, hF5⟩
     case measure => have := hkk.out; omega
  ·have hend := hJ.out.trans (mDescL_end (by rw [← hnk.out]; omega))
   obtain rfl : nn = i := by omega
   have h7 := had_7 h
   by_cases hall : h.a = true ∧ h.b = true ∧ h.c = true
   ·rw [if_pos hall] at hend
    rw [hall.1, hall.2.1, hall.2.2] at h7
    replace h7 : ((hadI h : Int) != 7) = false := h7
    replace hend := box hend
    clear hall
    go_wp2_with (first | (with_reducible refine lst (by with_unfolding_all rfl) (wp_fldA0 hF Tryz.underlying28 rfl (by with_unfolding_all exact ⟨_, rfl, rfl⟩) (ds := (dsL d.media d.dig d.size (.slice At lt ct))) (by rw [dsL_len hdl]; kernel_rfl) (take_all _) ?_)) | ((with_reducible refine lst (by with_unfolding_all rfl) (wp_fstA0 hF (by with_unfolding_all exact ⟨_, _, rfl, rfl, rfl⟩) (by rw [dsL_len hdl]; kernel_rfl) dsL_one (by rw [dsL_len hdl]; decide) (spl_all rfl) ?_)); intro w6 hF6 hz6))
    exact bodyPost_ret (results_cellF2 rfl _ hF6 (i := 0) rfl rfl Tryz.underlying28 rfl (by rw [dsL_len hdl]; kernel_rfl)) rfl (by
     unfold MDsc
     rw [hend.out]
     exact ⟨_, _, rfl, ⟨_, hdl, hnt'.out, rfl⟩, hF6.tail.tail⟩)
   ·rw [if_neg hall] at hend
    have h7' : ((hadI h : Int) != 7) = true := by
     rw [h7]
     obtain ⟨a, b, c⟩ := h
     cases a <;> cases b <;> cases c <;> simp at hall ⊢
    replace hend := box hend
    clear hall h7
    go_wp2_with (first | (with_reducible refine lst (by with_unfolding_all rfl) (wp_fbuild Tryz.underlying28 (z := .agg (List.toArray ds0)) (by kernel_rfl) (pl := dsP) (by kernel_rfl) (cs := ds0) rfl (vs := []) (by with_unfolding_all rfl) (by with_unfolding_all rfl) ?_)) | ((with_reducible refine lst (by with_unfolding_all rfl) (wp_fstA0 hF (by with_unfolding_all exact ⟨_, _, rfl, rfl, rfl⟩) (by rw [ds0_len]; kernel_rfl) ds0_one (by first | exact Nat.le_of_eq (Nat.zero_add _) | (rw [ds0_len, dsL_len hdl]; decide)) (spl_all (by first | rfl | (rw [ds0_len, dsL_len hdl]))) ?_)); intro w6 hF6 hz6))
    exact bodyPost_ret (results_cellF2 rfl _ hF6 (i := 0) rfl rfl Tryz.underlying28 rfl (by rw [ds0_len]; kernel_rfl)) rfl (by
     unfold MDsc
     rw [hend.out]
     exact ⟨_, _, rfl, VD.zero, hF6.tail.tail⟩)
end Go.Proofs.YtlhicfpmlncomaaGreatDoor

namespace Go.Proofs.YtlhicfpmlncomaaGreatDoor
open Go.RowKit
set_option linter.unusedSimpArgs false
set_option linter.unusedVariables false
theorem T_descs : SlT Tryz.prog 29 28 35 80 (.agg ds0.toArray) := ⟨Tryz.underlying29, by kernel_rfl, by kernel_rfl, by decide⟩
theorem mEdgesL_go {ks : List JV} {i : Nat} {k : JV} (hk : ks[i]? = some k) : mEdgesL (ks.drop i) = match mDesc k with
  | .ok d => mApp [d] (mEdgesL (ks.drop (i + 1)))
  | .error e => .error e := by
 rw [List.drop_eq_getElem_cons (List.getElem?_eq_some_iff.1 hk).1, (List.getElem?_eq_some_iff.1 hk).2, mEdgesL]
 cases mDesc k with
 | error e => rfl
 | ok d => simp only []; cases mEdgesL (ks.drop (i + 1)) <;> rfl
theorem mEdgesL_end {ks : List JV} {i : Nat} (hk : ks.length ≤ i) : mEdgesL (ks.drop i) = .ok [] := by
 rw [List.drop_of_length_le hk]; rfl
/-- Descriptors are told, or an error. -/
def MEdg (w : World) (r : MR (List MDesc)) (e : Ending) (w' : World) : Prop := ∃ eg es, e = .returned (.tuple #[eg, mErr r]) ∧ VE (mLst r) eg es ∧ Fr [] w w' es
set_option maxRecDepth 20000 in
set_option maxHeartbeats 6400000 in
theorem medges_any (v : JV) (cs : List Value) (w : World) (hM : MaxW w) (hv : VRd w (· < w.heap.size) v cs) (hob : JOb v) :
  Calls Tryz.prog 93 #[.agg cs.toArray] w (MEdg w (mEdges v)) := by
 obtain ⟨k, n, t, ns, ks⟩ := v
 rw [VRd] at hv
 obtain ⟨An, nn, cn, Ak, nk, ck, xs, hcn, hck, rfl, hrn, hrk, hvk⟩ := hv
 have hF0 := Fr.nil w
 have hkl := hvk.len
 rw [hrk.len] at hkl
 have hnk : nk = ks.length := by omega
 have hkob := box (fun u hu => hob.kid (k := u) hu)
 simp only [JV.kids] at hkob
 by_cases hk : k = 5
 rotate_left
 ·have hj : Box (mEdges (.mk k n t ns ks) = .error 80) := box (if_neg hk)
  have hq : ((k : Int) != 5) = true := by rw [bne_iff_ne]; exact hk
  replace hk := box hk
  clear hob hkl hnk
  go_enter Tryz.func93, Tryz.ntmps93
  go_wp2_with (first | ((with_reducible refine lst (by with_unfolding_all rfl) (wp_fbox hF0 (cs := (vlL k n ⟨t.toArray⟩ (.slice An nn cn) (.slice Ak nk ck))) rfl (by with_unfolding_all rfl) (by with_unfolding_all rfl) ?_)); intro w1 g1 hF1 hz1) | (with_reducible refine lst (by with_unfolding_all rfl) (wp_fld0 hF1 Tryz.underlying3 rfl (by with_unfolding_all exact ⟨_, rfl, rfl⟩) rfl ?_)))
  go_ret2
  unfold MEdg
  rw [hj.out]
  exact ⟨_, _, rfl, VE.nil, hF1⟩
 have hq : ((k : Int) != 5) = false := by rw [hk]; rfl
 by_cases hbig : 64 < nk
 ·have hj : Box (mEdges (.mk k n t ns ks) = .error 8) := box ((if_pos hk).trans (if_pos (show 64 < ks.length by omega)))
  have hd : decide ((64 : Int) < (nk : Int)) = true := decide_eq_true (by omega)
  replace hk := box hk
  clear hob hkl hnk
  go_enter Tryz.func93, Tryz.ntmps93
  go_wp2_with (first | ((with_reducible refine lst (by with_unfolding_all rfl) (wp_fbox hF0 (cs := (vlL k n ⟨t.toArray⟩ (.slice An nn cn) (.slice Ak nk ck))) rfl (by with_unfolding_all rfl) (by with_unfolding_all rfl) ?_)); intro w1 g1 hF1 hz1) | (with_reducible refine lst (by with_unfolding_all rfl) (wp_fld0 hF1 Tryz.underlying3 rfl (by with_unfolding_all exact ⟨_, rfl, rfl⟩) rfl ?_)) | (with_reducible refine lst (by with_unfolding_all rfl) (wp_fld0 hF1 Tryz.underlying74 rfl (by with_unfolding_all exact ⟨_, rfl, rfl⟩) rfl ?_)))
  go_ret2
  unfold MEdg
  rw [hj.out]
  exact ⟨_, _, rfl, VE.nil, hF1⟩
 have hd : decide ((64 : Int) < (nk : Int)) = false := decide_eq_false (by omega)
 obtain ⟨J, hJ0⟩ : ∃ J, J = mEdges (.mk k n t ns ks) := ⟨_, rfl⟩
 have hJ : Box (J = mApp [] (mEdgesL (ks.drop 0))) := box (by
  rw [hJ0, List.drop_zero]
  refine ((if_pos hk).trans (if_neg (show ¬ 64 < ks.length by omega))).trans ?_
  show mEdgesL ks = _
  cases mEdgesL ks <;> rfl)
 rw [← hJ0]
 replace hk := box hk
 replace hnk := box hnk
 replace hvk := box hvk
 clear hkl hJ0 hob
 go_enter Tryz.func93, Tryz.ntmps93
 go_wp2_with (first | ((with_reducible refine lst (by with_unfolding_all rfl) (wp_fbox hF0 (cs := (vlL k n ⟨t.toArray⟩ (.slice An nn cn) (.slice Ak nk ck))) rfl (by with_unfolding_all rfl) (by with_unfolding_all rfl) ?_)); intro w1 g1 hF1 hz1) | (with_reducible refine lst (by with_unfolding_all rfl) (wp_fld0 hF1 Tryz.underlying3 rfl (by with_unfolding_all exact ⟨_, rfl, rfl⟩) rfl ?_)) | (with_reducible refine lst (by with_unfolding_all rfl) (wp_fld0 hF1 Tryz.underlying74 rfl (by with_unfolding_all exact ⟨_, rfl, rfl⟩) rfl ?_)))
 have hF2 := hF1.none_ w.heap.size 28 35
 clear hF0 hF1
 go_loopg [4, 23] nk (fun g ov iv wr => ∃ (i : Nat) (out : List MDesc) (A : Option Addr) (c : Nat) (zs : List Value) (TE : List Ent), i ≤ nk ∧ Box (g = nk - i) ∧ iv = .int .i64 (i : Int) ∧ ov = .slice A i c ∧ i ≤ c ∧ Box (out.length = i) ∧ Box (VDL out zs TE) ∧ Box (J = mApp out (mEdgesL (ks.drop i))) ∧ Fr [] w wr (.own w.heap.size 28 35 (.slice A i c) i zs :: .blk g1 76 (vlL k n ⟨t.toArray⟩ (.slice An nn cn) (.slice Ak nk ck)) :: TE))
 case atStart => exact ⟨0, [], none, 0, [], [], by omega, box rfl, rfl, rfl, by omega, box rfl, box rfl, hJ, hF2⟩
 case round =>
  clear hF2 hJ
  obtain ⟨i, out, A, c, zs, TE, hi, hgi, rfl, rfl, hic, hol, hT, hJ, hF⟩ := hrel
  have hkk : Box (_ = nk - i) := hgi
  clear hgi
  have hrk' := hrk.below hF.below
  by_cases hlt : i < nk
  ·obtain ⟨u, hu⟩ : ∃ u, ks[i]? = some u := ⟨ks[i]'(by rw [← hnk.out]; exact hlt), by simp⟩
   obtain ⟨ci, hci, hvi⟩ := hvk.out.at hu
   have hstep := mEdgesL_go hu
   have hcil := box hvi.len
   have hcio := box (VRd.ones hvi)
   have hub := hkob.out u (List.mem_of_getElem? hu)
   have htx := box (fun w' hb => mdesc_any u ci w' (hM.on hb) (hvi.on (w' := w') hb) hub)
   have hJ' := hJ.out
   rw [hstep] at hJ'
   replace hci := box hci
   clear hu hstep hJ hvi hub
   cases hm : mDesc u with
   | ok d =>
    rw [hm] at hJ' htx
    simp only [] at hJ'
    rw [mApp_app] at hJ'
    replace hJ' := box hJ'
    clear hm
    go_wp2_with (first | (with_reducible refine lst (by with_unfolding_all rfl) (wp_indexAddr T_vals hrk' (by with_unfolding_all exact ⟨_, _, _, _, rfl, rfl, rfl⟩) (by omega) (by omega) ?_)) | (with_reducible refine lst (by with_unfolding_all rfl) (wp_loadA hrk' Tryz.underlying76 rfl (by with_unfolding_all exact ⟨_, rfl, rfl⟩) (ds := ci) (by rw [hcil.out]; kernel_rfl) (by rw [hcil.out]; with_unfolding_all exact hci.out) ?_)) | ((with_reducible refine lst (by with_unfolding_all rfl) (wp_falloc hF (cs := vl0) (z := .agg (List.toArray (vl0))) rfl (by kernel_rfl) (by with_unfolding_all rfl) ?_)); intro w2 g2 hF2 hz2) | ((with_reducible refine lst (by with_unfolding_all rfl) (wp_fstA0 hF2 (by with_unfolding_all exact ⟨_, _, rfl, rfl, rfl⟩) (by rw [hcil.out]; kernel_rfl) hcio.out (by rw [hcil.out, vlL_len]; decide) (spl_all (by rw [hcil.out, vlL_len])) ?_)); intro w3 hF3 hz3) | (with_reducible refine lst (by with_unfolding_all rfl) (wp_fldA0 hF3 Tryz.underlying76 rfl (by with_unfolding_all exact ⟨_, rfl, rfl⟩) (ds := ci) (by rw [hcil.out]; kernel_rfl) (take_all _) ?_)))
    refine (htx.out _ hF3.below).mono ?_
    rintro e w4 ⟨cs4, es4, rfl, hvd, hn4⟩
    have hF4 := hF3.joinR hn4
    simp only [List.cons_append] at hF4
    have hvd2 : VD d cs4 es4 := hvd
    have hdl := box hvd2.len
    have hdo := box hvd2.ones
    have hT2 := box (VDL.snoc (hT.out.mono (es' := TE ++ es4) (fun _ h => List.mem_append_left _ h)) (hvd2.mono (fun _ h => List.mem_append_right _ h)))
    simp only [mErr]
    clear hvd hvd2 hn4 htx
    go_wp2_with (first | ((with_reducible refine lst (by with_unfolding_all rfl) (wp_falloc hF4 (cs := ds0) (z := .agg (List.toArray (ds0))) rfl (by kernel_rfl) (by with_unfolding_all rfl) ?_)); intro w5 g5 hF5 hz5) | ((with_reducible refine lst (by with_unfolding_all rfl) (wp_fstA0 hF5 (by with_unfolding_all exact ⟨_, _, rfl, rfl, rfl⟩) (by rw [hdl.out]; kernel_rfl) hdo.out (by rw [hdl.out, ds0_len]; decide) (spl_all (by rw [hdl.out, ds0_len])) ?_)); intro w6 hF6 hz6) | (with_reducible refine lst (by with_unfolding_all rfl) (wp_fldA0 hF6 Tryz.underlying28 rfl (by with_unfolding_all exact ⟨_, rfl, rfl⟩) (ds := cs4) (by rw [hdl.out]; kernel_rfl) (take_all _) ?_)) | ((with_reducible refine lst (by with_unfolding_all rfl) (wp_fbs1 T_descs hF6 (by with_unfolding_all rfl) (ds := cs4) (by with_unfolding_all rfl) hdl.out (by decide) ?_)); intro w7 g7 hF7 hz7) | ((with_reducible refine lst (by with_unfolding_all rfl) (wp_fappG T_descs hF7 (i := 3) rfl (Nat.le_refl _) (hF7.rdOwn (i := 0) rfl) hdo.out (by with_unfolding_all exact ⟨_, _, rfl, rfl, rfl⟩) (by unfold maxLen; omega) (by omega) ?_)); intro v8 w8 hF8 hz8; simp only [List.set_cons_zero, List.set_cons_succ] at hF8; obtain ⟨A8, c8, rfl, hc8⟩ := hF8.ownParts (i := 3) rfl))
    go_roundg (nk - (i + 1))
    case rel => exact ⟨i + 1, out ++ [d], A8, c8, zs ++ cs4, TE ++ es4, by omega, box rfl, by go_num, rfl, hc8, box (by rw [List.length_append, hol.out]; rfl), hT2, hJ', hF8.tail.tail.tail⟩
    case measure => have := hkk.out; omega
   | error ee =>
    rw [hm] at hJ' htx
    simp only [] at hJ'
    replace hJ' := box hJ'
    clear hm
    go_wp2_with (first | (with_reducible refine lst (by with_unfolding_all rfl) (wp_indexAddr T_vals hrk' (by with_unfolding_all exact ⟨_, _, _, _, rfl, rfl, rfl⟩) (by omega) (by omega) ?_)) | (with_reducible refine lst (by with_unfolding_all rfl) (wp_loadA hrk' Tryz.underlying76 rfl (by with_unfolding_all exact ⟨_, rfl, rfl⟩) (ds := ci) (by rw [hcil.out]; kernel_rfl) (by rw [hcil.out]; with_unfolding_all exact hci.out) ?_)) | ((with_reducible refine lst (by with_unfolding_all rfl) (wp_falloc hF (cs := vl0) (z := .agg (List.toArray (vl0))) rfl (by kernel_rfl) (by with_unfolding_all rfl) ?_)); intro w2 g2 hF2 hz2) | ((with_reducible refine lst (by with_unfolding_all rfl) (wp_fstA0 hF2 (by with_unfolding_all exact ⟨_, _, rfl, rfl, rfl⟩) (by rw [hcil.out]; kernel_rfl) hcio.out (by rw [hcil.out, vlL_len]; decide) (spl_all (by rw [hcil.out, vlL_len])) ?_)); intro w3 hF3 hz3) | (with_reducible refine lst (by with_unfolding_all rfl) (wp_fldA0 hF3 Tryz.underlying76 rfl (by with_unfolding_all exact ⟨_, rfl, rfl⟩) (ds := ci) (by rw [hcil.out]; kernel_rfl) (take_all _) ?_)))
    refine (htx.out _ hF3.below).mono ?_
    rintro e w4 ⟨cs4, es4, rfl, hvd, hn4⟩
    have hF4 := hF3.joinR hn4
    simp only [List.cons_append] at hF4
    have hdl := box hvd.len
    have hdo := box hvd.ones
    simp only [mErr]
    clear hvd hn4 htx
    go_wp2_with (first | ((with_reducible refine lst (by with_unfolding_all rfl) (wp_falloc hF4 (cs := ds0) (z := .agg (List.toArray (ds0))) rfl (by kernel_rfl) (by with_unfolding_all rfl) ?_)); intro w5 g5 hF5 hz5) | ((with_reducible refine lst (by with_unfolding_all rfl) (wp_fstA0 hF5 (by with_unfolding_all exact ⟨_, _, rfl, rfl, rfl⟩) (by rw [hdl.out]; kernel_rfl) hdo.out (by rw [hdl.out, ds0_len]; decide) (spl_all (by rw [hdl.out, ds0_len])) ?_)); intro w6 hF6 hz6))
    go_ret2
    unfold MEdg
    rw [hJ'.out]
    exact ⟨_, _, rfl, VE.nil, hF6⟩
  ·have hend : Box (J = .ok out) := box (by rw [hJ.out, mEdgesL_end (by rw [← hnk.out]; omega)]; simp [mApp])
   obtain rfl : nk = i := by omega
   go_wp2_with fail
   go_ret2
   unfold MEdg
   rw [hend.out]
   have hF3 := hF.toRd (i := 0) rfl
   exact ⟨_, _, rfl, ⟨A, nk, c, zs, hic, hol.out.symm, rfl, hT.out.mono (fun _ h => by simp [h]), .inr (by simp)⟩, hF3⟩
end Go.Proofs.YtlhicfpmlncomaaGreatDoor

namespace Go.Proofs.YtlhicfpmlncomaaGreatDoor
set_option linter.unusedSimpArgs false
set_option linter.unusedVariables false
def MHad.count (h : MHad) : Nat := h.a.toNat + h.b.toNat + h.c.toNat
theorem MHad.all {h : MHad} : (h.a = true ∧ h.b = true ∧ h.c = true) ↔ ¬ h.count < 3 := by
 obtain ⟨a, b, c⟩ := h
 cases a <;> cases b <;> cases c <;> simp [MHad.count]
/-- A document takes a member in, and notes nothing else. -/
def rStep (d : MDoc) (n : List UInt8) (k : JV) : MR MDoc := match mStep d ⟨false, false, false, false, false⟩ n k with
 | .ok x => .ok x.1
 | .error e => .error e
def rReadL : MDoc → List (List UInt8) → List JV → MR MDoc
 | d, n :: ns, k :: ks => match rStep d n k with
  | .ok d' => rReadL d' ns ks
  | .error e => .error e
 | d, _, _ => .ok d
/-- Are the members there that must be, and no others? -/
def rWhole (d : MDoc) (names : List (List UInt8)) : Prop :=
 kVersion ∈ names ∧ kMedia ∈ names ∧ (kConfig ∈ names ↔ d.media = sImage) ∧ (kLayers ∈ names ↔ d.media = sImage) ∧ (kManifests ∈ names ↔ d.media ≠ sImage)
instance (d : MDoc) (names : List (List UInt8)) : Decidable (rWhole d names) := by unfold rWhole; exact inferInstance
/-- What a document has, with further members. -/
def MGot.more (h : MGot) (ns : List (List UInt8)) : MGot := ⟨h.v || decide (kVersion ∈ ns), h.m || decide (kMedia ∈ ns), h.c || decide (kConfig ∈ ns), h.l || decide (kLayers ∈ ns), h.i || decide (kManifests ∈ ns)⟩
theorem MGot.more_nil (h : MGot) : h.more [] = h := by simp [MGot.more]
/-- One member more. -/
def MGot.one (h : MGot) (n : List UInt8) : MGot := ⟨h.v || decide (n = kVersion), h.m || decide (n = kMedia), h.c || decide (n = kConfig), h.l || decide (n = kLayers), h.i || decide (n = kManifests)⟩
theorem MGot.more_cons (h : MGot) (n : List UInt8) (ns : List (List UInt8)) : h.more (n :: ns) = (h.one n).more ns := by
 unfold MGot.more MGot.one
 simp only [List.mem_cons, Bool.decide_or, Bool.or_assoc]
 simp only [eq_comm]
theorem mStep_one (d : MDoc) (h : MGot) (n : List UInt8) (k : JV) : mStep d h n k = match rStep d n k with
  | .ok d' => .ok (d', h.one n)
  | .error e => .error e := by
 unfold rStep mStep MGot.one
 by_cases h1 : n = kVersion
 ·subst h1
  rw [if_pos rfl, if_pos rfl]
  split <;> simp [kVersion, kMedia, kConfig, kLayers, kManifests]
 rw [if_neg h1, if_neg h1]
 by_cases h2 : n = kMedia
 ·subst h2
  rw [if_pos rfl, if_pos rfl]
  split
  ·split <;> simp [kVersion, kMedia, kConfig, kLayers, kManifests]
  ·rfl
 rw [if_neg h2, if_neg h2]
 by_cases h3 : n = kType
 ·subst h3
  rw [if_pos rfl, if_pos rfl]
  cases mMedia k <;> simp [kVersion, kMedia, kConfig, kLayers, kManifests, kType]
 rw [if_neg h3, if_neg h3]
 by_cases h4 : n = kConfig
 ·subst h4
  rw [if_pos rfl, if_pos rfl]
  cases mDesc k <;> simp [kVersion, kMedia, kConfig, kLayers, kManifests]
 rw [if_neg h4, if_neg h4]
 by_cases h5 : n = kLayers
 ·subst h5
  rw [if_pos rfl, if_pos rfl]
  cases mEdges k <;> simp [kVersion, kMedia, kConfig, kLayers, kManifests]
 rw [if_neg h5, if_neg h5]
 by_cases h6 : n = kManifests
 ·subst h6
  rw [if_pos rfl, if_pos rfl]
  cases mEdges k <;> simp [kVersion, kMedia, kConfig, kLayers, kManifests]
 rw [if_neg h6, if_neg h6]
 by_cases h7 : n = kSubject
 ·subst h7
  rw [if_pos rfl, if_pos rfl]
  cases mDesc k <;> simp [kVersion, kMedia, kConfig, kLayers, kManifests, kSubject]
 rw [if_neg h7, if_neg h7]
 by_cases h8 : n = kNotes
 ·subst h8
  rw [if_pos rfl, if_pos rfl]
  cases mNotes k <;> simp [kVersion, kMedia, kConfig, kLayers, kManifests, kNotes]
 rw [if_neg h8, if_neg h8]
theorem mReadL_eq : ∀ (ns : List (List UInt8)) (ks : List JV) (d : MDoc) (h : MGot), ns.length = ks.length → mReadL d h ns ks = match rReadL d ns ks with
  | .ok d' => if mWhole d' (h.more ns) = true then .ok d' else .error 80
  | .error e => .error e
 | [], [], d, h, _ => by
  rw [mReadL, rReadL]
  ·simp only [MGot.more_nil]
  all_goals (intros; rename_i h1 h2; cases h1)
 | n :: ns, k :: ks, d, h, hl => by
  rw [mReadL, rReadL, mStep_one, MGot.more_cons]
  cases rStep d n k with
  | error e => rfl
  | ok d' => exact mReadL_eq ns ks d' (h.one n) (by simpa using hl)
 | [], k :: ks, _, _, hl => by simp at hl
 | n :: ns, [], _, _, hl => by simp at hl
theorem sImage_ne : sImage ≠ sIndex := by decide
end Go.Proofs.YtlhicfpmlncomaaGreatDoor

/-
  Layer 6: the law JsonFields, walked.
  Layer 6: the law JsonWrites, walked.
  Layer 6 in plain words: lists and objects in one another; a list of many values.
  Layer 6: the law JsonNests, walked.
  Layer 6: what the rows' listed variables hold, in the walks' words.
-/
import Derived.Test.YtdekogmegdhjoaaDoorM21
import Derived.Test.YtdekogmegdhjoaaDoorM03
import Derived.Test.YtdekogmegdhjoaaDoorM20
import Derived.Test.YtdekogmegdhjoaaDoorM07
import Derived.Test.YtdekogmegdhjoaaDoorM10
import Derived.Test.YtdekogmegdhjoaaDoorM12
import Derived.Test.YtdekogmegdhjoaaDoorRows
import Derived.Lib.LaidU8T
import Derived.Stop.LaidErr
import Derived.Lib.LaidTab
import Derived.MakeChecks
import Derived.LaidLaws
namespace Go.Proofs.YtdekogmegdhjoaaDoor
open Go.RowKit
set_option linter.unusedSimpArgs false

theorem fr_new {w w' : World} {e : Ent} {es : List Ent} (hF : Fr [] w w' (e :: es)) {b : Nat} (hb : e.block = some b) : w.heap.size ≤ b := by
  rcases hF.fresh 0 e rfl b hb with h | h
  · exact h
  · simp at h
set_option maxRecDepth 20000 in
set_option maxHeartbeats 12800000 in
theorem jsonFields_any (v : JV) (cs : List Value) (nm : List UInt8) (w : World) (hL : LibsAt w.heap.size w) (hv : VRd w (· < w.heap.size) v cs) (hw : jW v ≤ 1048576) :
    Calls Tryd.prog 5 #[.agg cs.toArray, .string ⟨nm.toArray⟩] w fun e w' => e = .returned (.bool true) ∧ Below w.heap.size w w' := by
  have hcl := box hv.len
  have hco := box (VRd.one hv)
  have hsm := jW_sm v hw
  have hsm1 := jW_sm _ (Nat.le_trans (jW_cut 4 v 300) hw)
  have hdp := jCutN_dep 4 v 300
  have hct := jCut_dep (D := 20) (by decide) hdp
  obtain ⟨u, hu⟩ : ∃ u, u = (jCutN 4 v 300).1 := ⟨_, rfl⟩
  rw [← hu] at hsm1 hdp hct
  have hxs := field_sm (nm := nm) hsm1
  have hxd := jCut_dep (D := 20) (by decide) (field_dep (nm := nm) hdp)
  obtain ⟨x, hx⟩ : ∃ x, x = (jField nm u).getD .null := ⟨_, rfl⟩
  rw [← hx] at hxs hxd
  replace hct := box hct
  replace hxd := box hxd
  replace hu := box hu
  replace hx := box hx
  replace hw := box hw
  replace hdp := box hdp
  have hF0 := Fr.nil w
  go_enter Tryd.func5, Tryd.ntmps5
  go_upto_region 2 with (first | ((with_reducible refine lst (by with_unfolding_all rfl) (wp_fbox hF0 (cs := cs) rfl (by with_unfolding_all rfl) (by with_unfolding_all rfl) ?_)); intro w1 g1 hF1 hz1) | ((with_reducible refine lst (by with_unfolding_all rfl) (wp_falloc hF1 (cs := [(.int .i64 0)]) (z := (.int .i64 0)) rfl (by kernel_rfl) (by with_unfolding_all rfl) ?_)); intro w2 g2 hF2 hz2) | ((with_reducible refine lst (by with_unfolding_all rfl) (wp_fst0 hF2 (by with_unfolding_all exact ⟨_, _, rfl, rfl, rfl⟩) (by kernel_rfl) rfl rfl (by first | decide | (simp; done) | (simp; omega)) (spl1' _ (.int .i64 ((300 : Nat) : Int))) ?_)); intro w3 hF3 hz3))
  have hg2 := fr_new hF3 rfl
  have hcu := box (cut_any 4 v cs w3 g2 300 w.heap.size (by decide) (by decide) (hv.onG hF3.below) hsm hg2 hF3.size (hF3.blk (i := 0) rfl))
  go_wp2_with (first | (with_reducible refine lst (by with_unfolding_all rfl) (wp_fldA1 hF3 Tryd.underlying33 rfl (by with_unfolding_all exact ⟨_, rfl, rfl⟩) (ds := cs) (by rw [hcl.out]; kernel_rfl) (take_all _) ?_)))
  refine hcu.out.mono ?_
  rintro e w4 ⟨cs1, es1, rfl, hvc, h4⟩
  have hF4 := hF3.putG (i := 0) rfl h4
  simp only [List.set_cons_zero, List.cons_append, List.nil_append] at hF4
  have hvc1 := hvc.keep (w' := w) (fun k hk => (hF3.below.block k hk).symm)
  rw [← hu.out] at hvc1
  have hvl1 := box hvc.len
  have hvo1 := box hvc.one
  replace hvc1 := box hvc1
  clear hcu h4 hvc hF0 hF1 hF2 hF3
  go_upto_region 3 with (first | ((with_reducible refine lst (by with_unfolding_all rfl) (wp_fstA1 hF4 (by with_unfolding_all exact ⟨_, _, rfl, rfl, rfl⟩) (by rw [hvl1.out]; kernel_rfl) hvo1.out (by rw [hvl1.out, hcl.out]; decide) (spl_all (by rw [hvl1.out, hcl.out])) ?_)); intro w5 hF5 hz5))
  have hrd5 := hvc1.out.rdF hF5 hF5.size hF5.below (by intro e he; simp [he])
  have hto := box (to_any 20 u cs1 w5 (by decide) hrd5 hsm1)
  go_wp2_with (first | (with_reducible refine lst (by with_unfolding_all rfl) (wp_fldA1 hF5 Tryd.underlying33 rfl (by with_unfolding_all exact ⟨_, rfl, rfl⟩) (ds := cs1) (by rw [hvl1.out]; kernel_rfl) (take_all _) ?_)))
  refine hto.out.mono ?_
  rintro e w6 ⟨cs2, es2, rfl, hvt2, h6⟩
  rw [hct.out] at hvt2
  have hF6 := hF5.joinR h6
  simp only [List.cons_append] at hF6
  have hb6 := hF6.below
  have hL6 := (hL.on hb6).up hb6.size
  have hv1 := hvc1.out.rdF hF6 hF6.size hF6.below (by intro e he; simp [he])
  have hv2 := hvt2.rdF hF6 (by intro e he; simp [he])
  have hr1 : Rd w6 (· < w6.heap.size) (some ⟨g1, 0, none⟩) 1 5 cs1 := hF6.rdBlk (i := 1) rfl hvl1.out (by rw [List.drop_zero, ← hvl1.out, List.take_length])
  clear hto h6 hF4 hF5 hF6 hvt2 hrd5 hL hvc1
  have hG6 := Fr.nil w6
  have hfi := box (field_any u cs2 nm w6 w6.heap.size (Nat.le_refl _) hv2 hsm1)
  go_wp2_with fail
  refine hfi.out.mono ?_
  rintro e w7 ⟨cs3, rfl, hv3, hb7⟩
  rw [← hx.out] at hv3
  have hG7 := hG6.call hb7
  have hvl3 := box hv3.len
  have hvo3 := box (VRd.one hv3)
  clear hfi hb7 hv2
  go_upto_region 4 with (first | ((with_reducible refine lst (by with_unfolding_all rfl) (wp_falloc hG7 (cs := vl0) (z := .agg (List.toArray (vl0))) rfl (by kernel_rfl) (by with_unfolding_all rfl) ?_)); intro w8 g8 hF8 hz8) | ((with_reducible refine lst (by with_unfolding_all rfl) (wp_fstA0 hF8 (by with_unfolding_all exact ⟨_, _, rfl, rfl, rfl⟩) (by rw [hvl3.out]; kernel_rfl) hvo3.out (by rw [hvl3.out]; decide) (spl_all (by rw [hvl3.out, vlL_len])) ?_)); intro w9 hF9 hz9))
  have hrf := box (rfield_any u cs1 nm w9 w6.heap.size hF9.size (hv1.onG hF9.below) hsm1)
  have hr1' := hr1.below hF9.below
  have hcc1 : (cs1.drop 0).take cs1.length = cs1 := by rw [List.drop_zero, List.take_length]
  replace hcc1 := box hcc1
  go_wp2_with (first | (with_reducible refine lst (by with_unfolding_all rfl) (wp_loadA hr1' Tryd.underlying33 rfl (by with_unfolding_all exact ⟨_, rfl, rfl⟩) (ds := cs1) (by rw [hvl1.out]; kernel_rfl) hcc1.out ?_)))
  refine hrf.out.mono ?_
  rintro e w10 ⟨cs4, rfl, hv4, hb10⟩
  rw [← hx.out] at hv4
  have hG10 := hF9.call hb10
  have hv4' := hv4.keep (fun _ h => h) (fun k hk => (hF9.below.block k hk).symm) x
  have hvl4 := box hv4.len
  have hvo4 := box (VRd.one hv4)
  clear hrf hb10 hv4 hr1'
  go_upto_region 5 with (first | ((with_reducible refine lst (by with_unfolding_all rfl) (wp_falloc hG10 (cs := vl0) (z := .agg (List.toArray (vl0))) rfl (by kernel_rfl) (by with_unfolding_all rfl) ?_)); intro w11 g11 hF11 hz11) | ((with_reducible refine lst (by with_unfolding_all rfl) (wp_fstA0 hF11 (by with_unfolding_all exact ⟨_, _, rfl, rfl, rfl⟩) (by rw [hvl4.out]; kernel_rfl) hvo4.out (by rw [hvl4.out]; decide) (spl_all (by rw [hvl4.out, vlL_len])) ?_)); intro w12 hF12 hz12))
  have hfr := box (fun (w' : World) (hb : Below w6.heap.size w6 w') => from_any 20 x cs3 w' (by decide) (hv3.on hb) hxs)
  replace hv4' := box hv4'
  replace hxs := box hxs
  have hFd := hF12.drew
  refine wp_region_held (S := fun w' => w'.heap[g11]? = some (.cells (List.toArray cs4) 33 (0, 0)) ∧ w'.heap[g8]? = some (.cells (List.toArray cs3) 27 (0, 0))) (by kernel_rfl) ?_
  change wpAnyH _ _ _ _ _ _ _ _ (World.drew _)
  refine rdy1 0 (fun K hK => ?_)
  refine stp (by with_unfolding_all rfl) (wp_call Tryd.func13 rfl (by with_unfolding_all rfl) (by with_unfolding_all rfl) (by with_unfolding_all rfl) (awake_any _ _ hFd.below.size (hL6.on hFd.below)) ?_)
  rintro e w31 ⟨rfl, hb31⟩
  refine ⟨_, rfl, ?_⟩
  have hF31 := hFd.call hb31
  refine hK.out _ _ (⟨hF31.blk (i := 0) rfl, hF31.blk (i := 1) rfl⟩) (fun _ => ?_)
  clear hK K
  (try simp only [Act.put, List.setIfInBounds_toArray, List.set_cons_zero, List.set_cons_succ])
  refine tkp 1 ⟨hF31.blk (i := 0) rfl, hF31.blk (i := 1) rfl⟩ ?_
  (try simp only [Act.put, List.setIfInBounds_toArray, List.set_cons_zero, List.set_cons_succ])
  refine tkp 2 ⟨hF31.blk (i := 0) rfl, hF31.blk (i := 1) rfl⟩ ?_
  (try simp only [Act.put, List.setIfInBounds_toArray, List.set_cons_zero, List.set_cons_succ])
  refine tkp 3 ⟨hF31.blk (i := 0) rfl, hF31.blk (i := 1) rfl⟩ ?_
  (try simp only [Act.put, List.setIfInBounds_toArray, List.set_cons_zero, List.set_cons_succ])
  refine tkp 4 ⟨hF31.blk (i := 0) rfl, hF31.blk (i := 1) rfl⟩ ?_
  (try simp only [Act.put, List.setIfInBounds_toArray, List.set_cons_zero, List.set_cons_succ])
  refine tkp 5 ⟨hF31.blk (i := 0) rfl, hF31.blk (i := 1) rfl⟩ ?_
  (try simp only [Act.put, List.setIfInBounds_toArray, List.set_cons_zero, List.set_cons_succ])
  refine tkp 6 ⟨hF31.blk (i := 0) rfl, hF31.blk (i := 1) rfl⟩ ?_
  (try simp only [Act.put, List.setIfInBounds_toArray, List.set_cons_zero, List.set_cons_succ])
  refine tky 7 (y := yi_fldA (by with_unfolding_all rfl) (fun _ h => h.2) Tryd.underlying27 rfl (by with_unfolding_all exact ⟨_, rfl, rfl⟩) (ds := cs3) (by rw [hvl3.out]; kernel_rfl) (take_all _)) (s := ⟨hF31.blk (i := 0) rfl, hF31.blk (i := 1) rfl⟩) (h := ?_)
  (try simp only [Act.put, List.setIfInBounds_toArray, List.set_cons_zero, List.set_cons_succ])
  refine tky 9 (y := yi_fldA (by with_unfolding_all rfl) (fun _ h => h.1) Tryd.underlying33 rfl (by with_unfolding_all exact ⟨_, rfl, rfl⟩) (ds := cs4) (by rw [hvl4.out]; kernel_rfl) (take_all _)) (s := ⟨hF31.blk (i := 0) rfl, hF31.blk (i := 1) rfl⟩) (h := ?_)
  (try simp only [Act.put, List.setIfInBounds_toArray, List.set_cons_zero, List.set_cons_succ])
  refine rdy1 8 (fun K hK => ?_)
  refine stp (by with_unfolding_all rfl) (wp_call Tryd.func15 rfl (by with_unfolding_all rfl) (by with_unfolding_all rfl) (by with_unfolding_all rfl) (hfr.out _ hF31.below) ?_)
  rintro e w32 ⟨cs32, es32, rfl, hvt32, hv32⟩
  refine ⟨_, rfl, ?_⟩
  have hF32 := hF31.joinR hv32
  simp only [List.cons_append, List.nil_append] at hF32
  rw [hxd.out] at hvt32
  refine hK.out _ _ (⟨hF32.blk (i := 0) rfl, hF32.blk (i := 1) rfl⟩) (fun _ => ?_)
  clear hK K
  (try simp only [Act.put, List.setIfInBounds_toArray, List.set_cons_zero, List.set_cons_succ])
  refine rdy1 10 (fun K hK => ?_)
  refine stp (by with_unfolding_all rfl) (wp_call Tryd.func14 rfl (by with_unfolding_all rfl) (by with_unfolding_all rfl) (by with_unfolding_all rfl) (same_any _ x _ _ _ (Nat.le_refl _) (hvt32.rdF hF32 (by intro e he; simp [he])) (hv4'.out.on hF32.below) hxs.out) ?_)
  rintro e w33 ⟨rfl, hb33⟩
  refine ⟨_, rfl, ?_⟩
  have hF33 := hF32.call hb33
  refine hK.out _ _ (⟨hF33.blk (i := 0) rfl, hF33.blk (i := 1) rfl⟩) (fun _ => ?_)
  clear hK K
  (try simp only [Act.put, List.setIfInBounds_toArray, List.set_cons_zero, List.set_cons_succ])
  refine tkp 11 ⟨hF33.blk (i := 0) rfl, hF33.blk (i := 1) rfl⟩ ?_
  (try simp only [Act.put, List.setIfInBounds_toArray, List.set_cons_zero, List.set_cons_succ])
  refine tkp 12 ⟨hF33.blk (i := 0) rfl, hF33.blk (i := 1) rfl⟩ ?_
  (try simp only [Act.put, List.setIfInBounds_toArray, List.set_cons_zero, List.set_cons_succ])
  refine wpAnyH_done (by kernel_rfl) ?_ _
  go_wp2_with fail
  go_ret
  exact ⟨rfl, hb6.trans (hF33.below.mono hb6.size)⟩
/-- .. at any text. -/
theorem jsonFields_str (v : JV) (cs : List Value) (s : ByteArray) (w : World) (hL : LibsAt w.heap.size w) (hv : VRd w (· < w.heap.size) v cs) (hw : jW v ≤ 1048576) :
    Calls Tryd.prog 5 #[.agg cs.toArray, .string s] w fun e w' => e = .returned (.bool true) ∧ Below w.heap.size w w' := by
  obtain ⟨⟨l⟩⟩ := s
  exact jsonFields_any v cs l w hL hv hw
end Go.Proofs.YtdekogmegdhjoaaDoor

namespace Go.Proofs.YtdekogmegdhjoaaDoor
open Go.RowKit
set_option linter.unusedSimpArgs false

set_option maxRecDepth 20000 in
set_option maxHeartbeats 12800000 in
theorem jsonWrites_any (v : JV) (cs : List Value) (w : World) (hL : LibsAt w.heap.size w) (hv : VRd w (· < w.heap.size) v cs) (hw : jW v ≤ 1048576) (hji : JI v) :
    Calls Tryd.prog 6 #[.agg cs.toArray] w fun e w' => e = .returned (.bool true) ∧ Below w.heap.size w w' := by
  have hcl := box hv.len
  have hco := box (VRd.one hv)
  have hsm := jW_sm v hw
  have hw1 := Nat.le_trans (jW_cut 20 v 5000) hw
  have hsm1 := jW_sm _ hw1
  have htx1 := jW_tx _ hw1
  have htot1 := jTot_w (jCutN 20 v 5000).1
  have hfl1 := jW_full _ (JI_cut 20 v 5000 hji)
  have hdp := jCutN_dep 20 v 5000
  have hct := jCut_dep (D := 20) (by decide) hdp
  obtain ⟨u, hu⟩ : ∃ u, u = (jCutN 20 v 5000).1 := ⟨_, rfl⟩
  rw [← hu] at hsm1 hdp hct htx1 hw1 htot1 hfl1
  have htot : jTot u ≤ 10000000 := by omega
  have hfl : 6 * (jFull u).length ≤ 140737480000000 := by omega
  clear htot1 hfl1 hw1
  replace hct := box hct
  replace hu := box hu
  replace hw := box hw
  replace hdp := box hdp
  replace hfl := box hfl
  replace htot := box htot
  replace hji := box hji
  have hF0 := Fr.nil w
  go_enter Tryd.func6, Tryd.ntmps6
  go_upto_region 2 with (first | ((with_reducible refine lst (by with_unfolding_all rfl) (wp_fbox hF0 (cs := cs) rfl (by with_unfolding_all rfl) (by with_unfolding_all rfl) ?_)); intro w1 g1 hF1 hz1) | ((with_reducible refine lst (by with_unfolding_all rfl) (wp_falloc hF1 (cs := [(.int .i64 0)]) (z := (.int .i64 0)) rfl (by kernel_rfl) (by with_unfolding_all rfl) ?_)); intro w2 g2 hF2 hz2) | ((with_reducible refine lst (by with_unfolding_all rfl) (wp_fst0 hF2 (by with_unfolding_all exact ⟨_, _, rfl, rfl, rfl⟩) (by kernel_rfl) rfl rfl (by first | decide | (simp; done) | (simp; omega)) (spl1' _ (.int .i64 ((5000 : Nat) : Int))) ?_)); intro w3 hF3 hz3))
  have hg2 := fr_new hF3 rfl
  have hcu := box (cut_any 20 v cs w3 g2 5000 w.heap.size (by decide) (by decide) (hv.onG hF3.below) hsm hg2 hF3.size (hF3.blk (i := 0) rfl))
  go_wp2_with (first | (with_reducible refine lst (by with_unfolding_all rfl) (wp_fldA1 hF3 Tryd.underlying33 rfl (by with_unfolding_all exact ⟨_, rfl, rfl⟩) (ds := cs) (by rw [hcl.out]; kernel_rfl) (take_all _) ?_)))
  refine hcu.out.mono ?_
  rintro e w4 ⟨cs1, es1, rfl, hvc, h4⟩
  have hF4 := hF3.putG (i := 0) rfl h4
  simp only [List.set_cons_zero, List.cons_append, List.nil_append] at hF4
  have hvc1 := hvc.keep (w' := w) (fun k hk => (hF3.below.block k hk).symm)
  rw [← hu.out] at hvc1
  have hvl1 := box hvc.len
  have hvo1 := box hvc.one
  replace hvc1 := box hvc1
  clear hcu h4 hvc hF0 hF1 hF2 hF3
  go_upto_region 3 with (first | ((with_reducible refine lst (by with_unfolding_all rfl) (wp_fstA1 hF4 (by with_unfolding_all exact ⟨_, _, rfl, rfl, rfl⟩) (by rw [hvl1.out]; kernel_rfl) hvo1.out (by rw [hvl1.out, hcl.out]; decide) (spl_all (by rw [hvl1.out, hcl.out])) ?_)); intro w5 hF5 hz5))
  have hrd5 := hvc1.out.rdF hF5 hF5.size hF5.below (by intro e he; simp [he])
  have hto := box (to_any 20 u cs1 w5 (by decide) hrd5 hsm1)
  go_wp2_with (first | (with_reducible refine lst (by with_unfolding_all rfl) (wp_fldA1 hF5 Tryd.underlying33 rfl (by with_unfolding_all exact ⟨_, rfl, rfl⟩) (ds := cs1) (by rw [hvl1.out]; kernel_rfl) (take_all _) ?_)))
  refine hto.out.mono ?_
  rintro e w6 ⟨cs2, es2, rfl, hvt2, h6⟩
  rw [hct.out] at hvt2
  have hF6 := hF5.joinR h6
  simp only [List.cons_append] at hF6
  have hb6 := hF6.below
  have hL6 := (hL.on hb6).up hb6.size
  have hv1 := hvc1.out.rdF hF6 hF6.size hF6.below (by intro e he; simp [he])
  have hv2 := hvt2.rdF hF6 (by intro e he; simp [he])
  have hr1 : Rd w6 (· < w6.heap.size) (some ⟨g1, 0, none⟩) 1 5 cs1 := hF6.rdBlk (i := 1) rfl hvl1.out (by rw [List.drop_zero, ← hvl1.out, List.take_length])
  clear hto h6 hF4 hF5 hF6 hvt2 hrd5 hL hvc1
  have hG6 := Fr.nil w6
  have hwr := box (write_F hG6 hL6 (Nat.le_refl _) hv2 hsm1 htx1 hfl.out)
  go_wp2_with fail
  refine hwr.out.mono ?_
  rintro e w7 ⟨A7, n7, c7, rfl, hn7, hc7, hG7⟩
  clear hwr hG6 hv2
  have hcc1 : (cs1.drop 0).take cs1.length = cs1 := by rw [List.drop_zero, List.take_length]
  replace hcc1 := box hcc1

  obtain ⟨⟨l, f⟩, hR⟩ : ∃ R, R = jWrite u := ⟨_, rfl⟩
  rw [← hR] at hn7 hG7
  rw [← hR]
  simp only [] at hn7 hG7
  have hrw := box (rwrite_any u cs1 w7 (hv1.on hG7.below) hsm1 htx1 htot.out hfl.out)
  rw [← hR] at hrw
  have hln : l.length ≤ 65536 := by
    have h1 := hR
    unfold jWrite at h1
    split at h1
    · injection h1 with h1 h2; rw [h1]; simp
    · split at h1
      · injection h1 with h1 h2; rw [h1]; simp
      · injection h1 with h1 h2; rw [h1]; omega
  replace hR := box hR
  replace hn7 := box hn7
  have hr1' := hr1.below hG7.below
  go_wp2_with (first | (with_reducible refine lst (by with_unfolding_all rfl) (wp_loadA hr1' Tryd.underlying33 rfl (by with_unfolding_all exact ⟨_, rfl, rfl⟩) (ds := cs1) (by rw [hvl1.out]; kernel_rfl) hcc1.out ?_)))
  refine hrw.out.mono ?_
  rintro e w8 ⟨rfl, hb8⟩
  have hG8 := hG7.call hb8
  clear hrw hb8 hr1'
  go_upto_region 5 with fail
  have haw := box (awake_any w8 w6.heap.size hG8.below.size (hL6.on hG8.below))
  go_wp2_with fail
  refine haw.out.mono ?_
  rintro e w9 ⟨rfl, hb9⟩
  have hG9 := hG8.call hb9
  have hr7 := hG9.rd (i := 0) rfl
  go_wp2_with (first | (with_reducible refine lst (by with_unfolding_all rfl) (wp_b2s T_u8 Tryd.underlying5 Tryd.underlying9 hr7 (by with_unfolding_all exact ⟨_, rfl, rfl⟩) ?_)))
  go_ret
  exact ⟨rfl, hb6.trans (hG9.below.mono hb6.size)⟩
end Go.Proofs.YtdekogmegdhjoaaDoor

namespace Go.Proofs.YtdekogmegdhjoaaDoor

def nestP : Nat → List UInt8
  | 0 => []
  | i + 1 => nestP i ++ (if i % 2 = 0 then [91] else [123, 34, 97, 34, 58])
def nestC : Nat → List UInt8
  | 0 => []
  | i + 1 => (if i % 2 = 0 then 93 else 125) :: nestC i
def nestOk (d : Nat) : Bool :=
  match jParse (nestP d ++ [49] ++ nestC d) with
  | .ok v => decide (d ≤ 16) && (decide (d = 0) || v.kids.length == 1)
  | .error x => decide (16 < d) && (x.2 == 64) && decide (x.1 < (nestP d).length)
theorem nests_ok : ∀ d, d < 20 → nestOk d = true := by decide +kernel
theorem nestP_len : ∀ d, (nestP d).length ≤ 5 * d
  | 0 => Nat.le_refl _
  | d + 1 => by
    have := nestP_len d
    rw [nestP, List.length_append]
    split <;> simp <;> omega
theorem nestC_len : ∀ d, (nestC d).length = d
  | 0 => rfl
  | d + 1 => by rw [nestC, List.length_cons, nestC_len d]
def zB : Nat → List UInt8
  | 0 => [91]
  | i + 1 => zB i ++ (if i = 0 then [] else [44]) ++ [48]
theorem zB_len : ∀ i, (zB (i + 1)).length = 2 * i + 2
  | 0 => rfl
  | i + 1 => by
    rw [zB, List.length_append, List.length_append, zB_len i]
    simp
    omega
theorem zB_at : ∀ (i p : Nat), p < (zB i).length → (zB i)[p]? = some (if p = 0 then 91 else if p % 2 = 1 then 48 else 44)
  | 0, p, h => by
    have : p = 0 := by simp [zB] at h; exact h
    subst this; rfl
  | 1, p, h => by
    have h2 : p < 2 := h
    match p, h2 with
    | 0, _ => rfl
    | 1, _ => rfl
  | i + 2, p, h => by
    have hl := zB_len i
    have hl2 := zB_len (i + 1)
    rw [zB, if_neg (by omega), List.append_assoc]
    rcases Nat.lt_or_ge p (zB (i + 1)).length with h1 | h1
    · rw [List.getElem?_append_left h1]
      exact zB_at (i + 1) p h1
    · rw [List.getElem?_append_right h1, hl]
      rw [hl] at h1
      rw [hl2] at h
      have h3 : p = 2 * i + 2 ∨ p = 2 * i + 3 := by omega
      rcases h3 with rfl | rfl
      · rw [if_neg (by omega), if_neg (by omega), show 2 * i + 2 - (2 * i + 2) = 0 by omega]; rfl
      · rw [if_neg (by omega), if_pos (by omega), show 2 * i + 3 - (2 * i + 2) = 1 by omega]; rfl
/-- A list of zeros. -/
def zL (k : Nat) : List UInt8 := zB k ++ [93]
section
variable {k : Nat}
theorem zL_len (h : 0 < k) : (zL k).length = 2 * k + 1 := by
  obtain ⟨i, rfl⟩ : ∃ i, k = i + 1 := ⟨k - 1, by omega⟩
  unfold zL
  rw [List.length_append, zB_len]; simp; omega
theorem zL_num (h : 0 < k) {j : Nat} (hj : j < k) : (zL k)[2 * j + 1]? = some 48 := by
  obtain ⟨i, rfl⟩ : ∃ i, k = i + 1 := ⟨k - 1, by omega⟩
  have hl := zB_len i
  unfold zL
  rw [List.getElem?_append_left (by omega), zB_at _ _ (by omega), if_neg (by omega), if_pos (by omega)]
theorem zL_sep {j : Nat} (hj : j + 1 < k) : (zL k)[2 * j + 2]? = some 44 := by
  obtain ⟨i, rfl⟩ : ∃ i, k = i + 1 := ⟨k - 1, by omega⟩
  have hl := zB_len i
  unfold zL
  rw [List.getElem?_append_left (by omega), zB_at _ _ (by omega), if_neg (by omega), if_neg (by omega)]
theorem zL_end {j : Nat} (hj : j + 1 = k) : (zL k)[2 * j + 2]? = some 93 := by
  subst hj
  have hl := zB_len j
  unfold zL
  rw [List.getElem?_append_right (by omega), hl, Nat.sub_self]; rfl
theorem zL_val (d : Nat) {j m : Nat} (hj : j < k) (hm : m < 4096) : jValue (zL k) d (2 * j + 1) m = .ok (.mk 3 0 [] [] [], 2 * j + 2, m + 1) := by
  have h0 := zL_num (by omega) hj
  have hn : jNumber (zL k) (2 * j + 1) = .ok (0, 2 * j + 2) := by
    have hp := (List.getElem?_eq_some_iff.1 h0).1
    have h1 : ((zL k).drop (2 * j + 1)).takeWhile jNumC = [48] := by
      rw [List.drop_eq_getElem_cons hp, (List.getElem?_eq_some_iff.1 h0).2, List.takeWhile_cons, if_pos (by decide)]
      have h2 : ∃ x, (zL k)[2 * j + 1 + 1]? = some x ∧ jNumC x = false := by
        by_cases he : j + 1 = k
        · exact ⟨93, zL_end he, by decide⟩
        · exact ⟨44, zL_sep (by omega), by decide⟩
      obtain ⟨x, hx, hx2⟩ := h2
      have hp2 := (List.getElem?_eq_some_iff.1 hx).1
      rw [List.drop_eq_getElem_cons hp2, (List.getElem?_eq_some_iff.1 hx).2, List.takeWhile_cons, if_neg (by rw [hx2]; decide)]
    unfold jNumber
    simp only [h1]
    rfl
  have hw : ∀ val, jValueW (zL k) val (2 * j + 1) m = .ok (.mk 3 0 [] [] [], 2 * j + 2, m + 1) := fun val => by
    unfold jValueW
    rw [h0]
    simp only []
    rw [if_neg (by omega), if_neg (by decide), if_neg (by decide), if_neg (by decide), if_pos (by decide), hn]
  cases d with
  | zero => exact hw _
  | succ d => exact hw _
theorem zL_many (d : Nat) : ∀ (r j f : Nat) (kids : List JV), j + r = k → 0 < r → j < 4096 → r ≤ f → kids.length = j →
    (k < 4096 → ∃ ks, ks.length = k ∧ jManyL (zL k) 5 93 (jValue (zL k) d) f (2 * j + 1) (j + 1) [] kids = .ok (.mk 5 0 [] [] ks, 2 * k + 1, k + 1)) ∧
    (4096 ≤ k → jManyL (zL k) 5 93 (jValue (zL k) d) f (2 * j + 1) (j + 1) [] kids = .error (8191, 8)) := by
  intro r
  induction r with
  | zero => intro j f kids _ h; omega
  | succ r ih =>
    intro j f kids hjr _ hj4 hf hkl
    obtain ⟨f, rfl⟩ : ∃ g, f = g + 1 := ⟨f - 1, by omega⟩
    have hjk : j < k := by omega
    by_cases hlast : j = 4095
    · refine ⟨fun h => by omega, fun _ => ?_⟩
      subst hlast
      rw [jManyL, if_neg (by decide)]
      simp only []
      have hx : jValue (zL k) d (2 * 4095 + 1) (4095 + 1) = .error (8191, 8) := by
        have h0 := zL_num (by omega) hjk
        have hw : ∀ val, jValueW (zL k) val (2 * 4095 + 1) (4095 + 1) = .error (8191, 8) := fun val => by
          unfold jValueW
          rw [h0]
          simp only []
          rw [if_pos trivial]
        cases d with
        | zero => exact hw _
        | succ d => exact hw _
      rw [hx]
    · have hv := zL_val (k := k) d hjk (m := j + 1) (by omega)
      rw [jManyL, if_neg (by decide)]
      simp only [hv]
      by_cases he : j + 1 = k
      · have hx := zL_end he
        refine ⟨fun h4 => ⟨kids ++ [.mk 3 0 [] [] []], by simp; omega, ?_⟩, fun h4 => by omega⟩
        rw [jBlanks_stop hx (by decide)]
        unfold jNext
        rw [hx]
        simp only []
        rw [if_pos trivial, if_neg (by decide), show 2 * j + 2 + 1 = 2 * k + 1 by omega, show j + 1 + 1 = k + 1 by omega]
      · have hx := zL_sep (k := k) (j := j) (by omega)
        have hy := zL_num (k := k) (j := j + 1) (by omega) (by omega)
        have hb : jBlanks (zL k) (2 * j + 2 + 1) = 2 * (j + 1) + 1 := jBlanks_stop (p := 2 * (j + 1) + 1) hy (by decide)
        have hw : jWord (zL k) [44] (2 * j + 2) = .ok (2 * j + 2 + 1) := by
          unfold jWord
          rw [hx]
          simp only []
          rw [if_pos trivial]
          rfl
        have key := ih (j + 1) f (kids ++ [.mk 3 0 [] [] []]) (by omega) (by omega) (by omega) (by omega) (by simp; omega)
        rw [jBlanks_stop hx (by decide)]
        unfold jNext
        rw [hx]
        simp only []
        rw [if_neg (by decide), hw]
        simp only []
        rw [hb, if_neg (by decide)]
        exact key
theorem zL_parse (hk : k < 5000) : (k < 4096 → ∃ v, jParse (zL k) = .ok v ∧ v.kids.length = k) ∧ (4096 ≤ k → jParse (zL k) = .error (8191, 8)) := by
  by_cases h0 : k = 0
  · subst h0
    exact ⟨fun _ => ⟨.mk 5 0 [] [] [], by kernel_rfl, rfl⟩, fun h => by omega⟩
  · have hl := zL_len (k := k) (by omega)
    obtain ⟨i, rfl⟩ : ∃ i, k = i + 1 := ⟨k - 1, by omega⟩
    have hx0 : (zL (i + 1))[0]? = some 91 := by
      unfold zL
      rw [List.getElem?_append_left (by rw [zB_len]; omega), zB_at _ _ (by rw [zB_len]; omega), if_pos rfl]
    have hx1 := zL_num (k := i + 1) (by omega) (j := 0) (by omega)
    have hm : jMany (zL (i + 1)) 5 93 (some (jValue (zL (i + 1)) 15)) 0 1 = jManyL (zL (i + 1)) 5 93 (jValue (zL (i + 1)) 15) (2 * (i + 1) + 1) 1 1 [] [] := by
      unfold jMany
      simp only []
      rw [jBlanks_stop (p := 0 + 1) hx1 (by decide)]
      unfold jNext
      rw [hx1]
      simp only []
      rw [if_neg (by decide), hl]
      rfl
    have hv : jValue (zL (i + 1)) 16 0 0 = jMany (zL (i + 1)) 5 93 (some (jValue (zL (i + 1)) 15)) 0 1 := by
      show jValueW _ _ 0 0 = _
      unfold jValueW
      rw [hx0]
      simp only []
      rw [if_neg (by decide), if_neg (by decide), if_neg (by decide), if_neg (by decide), if_neg (by decide), if_neg (by decide), if_pos trivial]
    have hp : jParse (zL (i + 1)) = match jMany (zL (i + 1)) 5 93 (some (jValue (zL (i + 1)) 15)) 0 1 with
        | .error x => .error x
        | .ok (v, p, _) => if jBlanks (zL (i + 1)) p < (zL (i + 1)).length then .error (jBlanks (zL (i + 1)) p, 10) else .ok v := by
      unfold jParse
      rw [if_neg (by omega), jBlanks_stop hx0 (by decide), hv]
      rfl
    obtain ⟨h1, h2⟩ := zL_many (k := i + 1) 15 (i + 1) 0 (2 * (i + 1) + 1) [] (by omega) (by omega) (by omega) (by omega) rfl
    refine ⟨fun h4 => ?_, fun h4 => ?_⟩
    · obtain ⟨ks, hks, hkk⟩ := h1 h4
      refine ⟨.mk 5 0 [] [] ks, ?_, hks⟩
      have hkk' : jManyL (zL (i + 1)) 5 93 (jValue (zL (i + 1)) 15) (2 * (i + 1) + 1) 1 1 [] [] = .ok (.mk 5 0 [] [] ks, 2 * (i + 1) + 1, i + 1 + 1) := hkk
      rw [hp, hm, hkk']
      simp only []
      rw [jBlanks_end (by rw [hl]; exact Nat.le_refl _), if_neg (by omega)]
    · rw [hp, hm]
      have := h2 h4
      rw [show (2 * 0 + 1 : Nat) = 1 from rfl] at this
      rw [this]
end
end Go.Proofs.YtdekogmegdhjoaaDoor

namespace Go.Proofs.YtdekogmegdhjoaaDoor
open Go.RowKit
set_option linter.unusedSimpArgs false

theorem u_mod (x : Int) (m : Nat) (h0 : 0 < m) (h : m ≤ 5000) : ∃ D : Nat, D < m ∧ wrap64 ((IntKind.u64.wrap x).tmod (m : Int)) = (D : Int) := by
  have h1 : 0 ≤ IntKind.u64.wrap x := by
    simp only [IntKind.wrap, IntKind.bits, IntKind.signed]
    simp
    omega
  have h2 : 0 ≤ (IntKind.u64.wrap x).tmod (m : Int) := Int.tmod_nonneg _ h1
  have h3 : (IntKind.u64.wrap x).tmod (m : Int) < m := Int.tmod_lt_of_pos _ (by omega)
  refine ⟨((IntKind.u64.wrap x).tmod (m : Int)).toNat, by omega, ?_⟩
  unfold wrap64
  omega
theorem par_t {i : Nat} (h : i % 2 = 0) : ((i : Int) % 2 == 0) = true := by rw [beq_iff_eq]; omega
theorem par_f {i : Nat} (h : ¬ i % 2 = 0) : ((i : Int) % 2 == 0) = false := by rw [beq_eq_false_iff_ne]; omega

set_option maxRecDepth 20000 in
set_option maxHeartbeats 12800000 in
theorem jsonNests_any (x y : Int) (w : World) (hL : LibsAt w.heap.size w) :
    Calls Tryd.prog 4 #[.int .i64 x, .int .i64 y] w fun e w' => e = .returned (.bool true) ∧ Below w.heap.size w w' := by
  have hF0 := Fr.nil w
  obtain ⟨D, hD, hDe⟩ := u_mod x 20 (by decide) (by decide)
  obtain ⟨M, hM, hMe⟩ := u_mod y 5000 (by decide) (by decide)
  have hDe' : wrap64 ((IntKind.u64.wrap x).tmod 20) = (D : Int) := hDe
  have hMe' : wrap64 ((IntKind.u64.wrap y).tmod 5000) = (M : Int) := hMe
  clear hDe hMe
  replace hDe' := box hDe'
  replace hMe' := box hMe'
  go_enter Tryd.func4, Tryd.ntmps4
  go_upto_region 3 with (fail)
  rw [hDe'.out, hMe'.out]
  clear hDe' hMe'
  go_wp2
  go_loopg [5, 26] D (fun k v s wr => ∃ i : Nat, i ≤ D ∧ Box (k = D - i) ∧ s = .int .i64 (i : Int) ∧ Fr [] w wr [Ent.bytes w.heap.size 5 v (nestP i)])
  case atStart => exact ⟨0, by omega, box rfl, rfl, hF0.pushNil _⟩
  case round =>
    obtain ⟨i, hi, hk, rfl, hF⟩ := hrel
    clear hF0
    obtain ⟨Ao, co, rfl, hco, hro⟩ := (hF.own (i := 0) rfl).arg
    have hln := nestP_len i
    by_cases hlt : i < D
    · by_cases hpar : i % 2 = 0
      · have p1 := par_t hpar
        have hnx : Box (nestP (i + 1) = nestP i ++ [91]) := box (by rw [nestP, if_pos hpar])
        replace hpar := box hpar
        go_wp2_with (first | ((with_reducible refine lst (by with_unfolding_all rfl) (wp_fbsl T_u8 hF (vs := [bv 91]) (by with_unfolding_all rfl) (by with_unfolding_all rfl) (by with_unfolding_all rfl) (by decide) (by simp [bv, Value.cells]) ?_)); intro w2 g2 hF2 hz2; have hr2 : Rd w2 (· < w2.heap.size) (some ⟨g2, 0, none⟩) 1 1 ([91].map bv) := hF2.rdOwn0; replace hF2 : Fr _ _ w2 (Ent.bytes _ 5 (.slice (some ⟨g2, 0, none⟩) 1 1) [91] :: _) := hF2) | ((with_reducible refine lst (by with_unfolding_all rfl) (wp_fapp1 T_u8 hF2 (Nat.le_refl _) hr2 (by with_unfolding_all exact ⟨_, _, rfl, rfl, rfl⟩) (by omega) ?_)); intro v3 w3 hF3 hz3))
        go_roundg (D - (i + 1))
        case rel => exact ⟨i + 1, by omega, box rfl, by go_num, by rw [hnx.out]; exact hF3.tail⟩
        case measure => have := hk.out; omega
      · have p1 := par_f hpar
        have hnx : Box (nestP (i + 1) = nestP i ++ [123, 34, 97, 34, 58]) := box (by rw [nestP, if_neg hpar])
        replace hpar := box hpar
        go_wp2_with (first | ((with_reducible refine lst (by with_unfolding_all rfl) (wp_fappS T_u8 Tryd.underlying9 hF (i := 0) rfl (Nat.le_refl _) (by with_unfolding_all exact ⟨_, _, rfl, rfl, rfl⟩) (by rw [show (⟨#[123, 34, 97, 34, 58]⟩ : ByteArray).size = 5 from rfl]; omega) ?_)); intro v3 w3 hF3 hz3; simp only [List.set_cons_zero, List.set_cons_succ] at hF3))
        go_roundg (D - (i + 1))
        case rel => exact ⟨i + 1, by omega, box rfl, by go_num, by rw [hnx.out]; exact hF3⟩
        case measure => have := hk.out; omega
    · have hiD : D = i := by omega
      subst hiD
      clear hk hi hlt
      obtain ⟨P, hP⟩ : ∃ P, P = nestP D := ⟨_, rfl⟩
      rw [← hP] at hF hln hro hco
      rw [← hP]
      replace hP := box hP
      go_wp2_with (first | ((with_reducible refine lst (by with_unfolding_all rfl) (wp_fbsl T_u8 hF (vs := [bv 49]) (by with_unfolding_all rfl) (by with_unfolding_all rfl) (by with_unfolding_all rfl) (by decide) (by simp [bv, Value.cells]) ?_)); intro w2 g2 hF2 hz2; have hr2 : Rd w2 (· < w2.heap.size) (some ⟨g2, 0, none⟩) 1 1 ([49].map bv) := hF2.rdOwn0; replace hF2 : Fr _ _ w2 (Ent.bytes _ 5 (.slice (some ⟨g2, 0, none⟩) 1 1) [49] :: _) := hF2) | ((with_reducible refine lst (by with_unfolding_all rfl) (wp_fapp1 T_u8 hF2 (Nat.le_refl _) hr2 (by with_unfolding_all exact ⟨_, _, rfl, rfl, rfl⟩) (by omega) ?_)); intro v3 w3 hF3 hz3))
      have hF4 := hF3.tail
      clear hF hF2 hF3 hro
      go_loopg [5, 9] D (fun k v s wr => ∃ (j : Nat) (X : List UInt8), j ≤ D ∧ Box (k = j) ∧ s = .int .i64 ((j : Int) - 1) ∧ Box (X ++ nestC j = nestC D) ∧ X.length ≤ 20 ∧ Fr [] w wr [Ent.bytes w.heap.size 5 v (P ++ [49] ++ X)])
      case atStart => exact ⟨D, [], Nat.le_refl _, box rfl, rfl, box rfl, by simp, by simpa using hF4⟩
      case round =>
        obtain ⟨j, X, hj, hk, rfl, hX, hXl, hF⟩ := hrel
        clear hF4
        obtain ⟨Ao, co, rfl, hco, hro⟩ := (hF.own (i := 0) rfl).arg
        have hYl : (P ++ [49] ++ X).length ≤ 200 := by simp; omega
        obtain ⟨Y, hY⟩ : ∃ Y, Y = P ++ [49] ++ X := ⟨_, rfl⟩
        rw [← hY] at hF hro hco hYl
        rw [← hY]
        replace hY := box hY
        by_cases hj0 : j = 0
        · subst hj0
          have hXe : X = nestC D := by have := hX.out; simpa [nestC] using this
          clear hk hX hj
          have hFc := hF.pushNil 5
          go_wp2_with (first | ((with_reducible refine lst (by with_unfolding_all rfl) (wp_fbsl T_u8 hFc (vs := [bv 91]) (by with_unfolding_all rfl) (by with_unfolding_all rfl) (by with_unfolding_all rfl) (by decide) (by simp [bv, Value.cells]) ?_)); intro w4 g4 hF4 hz4; have hr4 : Rd w4 (· < w4.heap.size) (some ⟨g4, 0, none⟩) 1 1 ([91].map bv) := hF4.rdOwn0; replace hF4 : Fr _ _ w4 (Ent.bytes _ 5 (.slice (some ⟨g4, 0, none⟩) 1 1) [91] :: _) := hF4) | ((with_reducible refine lst (by with_unfolding_all rfl) (wp_fapp1 T_u8 hF4 (Nat.le_refl _) hr4 (by with_unfolding_all exact ⟨_, _, rfl, rfl, rfl⟩) (by simp) ?_)); intro v5 w5 hF5 hz5))
          have hF6 := hF5.tail
          clear hF hFc hF4 hF5
          go_loopg [6, 59] M (fun k v s wr => ∃ i : Nat, i ≤ M ∧ Box (k = M - i) ∧ s = .int .i64 (i : Int) ∧ Fr [] w wr [Ent.bytes w.heap.size 5 v (zB i), Ent.bytes w.heap.size 5 (.slice Ao Y.length co) Y])
          case atStart => exact ⟨0, by omega, box rfl, rfl, hF6⟩
          case round =>
            obtain ⟨i, hi, hk, rfl, hF⟩ := hrel
            clear hF6
            obtain ⟨Az, cz, rfl, hcz, hrz⟩ := (hF.own (i := 0) rfl).arg
            have hzl : (zB i).length ≤ 2 * i + 1 := by
              cases i with
              | zero => exact Nat.le_refl _
              | succ i => rw [zB_len]; omega
            by_cases hlt : i < M
            · by_cases h0 : 0 < i
              · have hnx : Box (zB (i + 1) = zB i ++ [44] ++ [48]) := box (by rw [zB, if_neg (by omega)])
                go_wp2_with (first | ((with_reducible refine lst (by with_unfolding_all rfl) (wp_fbsl T_u8 hF (vs := [bv 44]) (by with_unfolding_all rfl) (by with_unfolding_all rfl) (by with_unfolding_all rfl) (by decide) (by simp [bv, Value.cells]) ?_)); intro w2 g2 hF2 hz2; have hr2 : Rd w2 (· < w2.heap.size) (some ⟨g2, 0, none⟩) 1 1 ([44].map bv) := hF2.rdOwn0; replace hF2 : Fr _ _ w2 (Ent.bytes _ 5 (.slice (some ⟨g2, 0, none⟩) 1 1) [44] :: _) := hF2) | ((with_reducible refine lst (by with_unfolding_all rfl) (wp_fapp1 T_u8 hF2 (Nat.le_refl _) hr2 (by with_unfolding_all exact ⟨_, _, rfl, rfl, rfl⟩) (by omega) ?_)); intro v3 w3 hF3 hz3) | ((with_reducible refine lst (by with_unfolding_all rfl) (wp_fbsl T_u8 hF3 (vs := [bv 48]) (by with_unfolding_all rfl) (by with_unfolding_all rfl) (by with_unfolding_all rfl) (by decide) (by simp [bv, Value.cells]) ?_)); intro w4 g4 hF4 hz4; have hr4 : Rd w4 (· < w4.heap.size) (some ⟨g4, 0, none⟩) 1 1 ([48].map bv) := hF4.rdOwn0; replace hF4 : Fr _ _ w4 (Ent.bytes _ 5 (.slice (some ⟨g4, 0, none⟩) 1 1) [48] :: _) := hF4) | ((with_reducible refine lst (by with_unfolding_all rfl) (wp_fapp2 T_u8 hF4 (Nat.le_refl _) hr4 (by with_unfolding_all exact ⟨_, _, rfl, rfl, rfl⟩) (by simp; omega) ?_)); intro v5 w5 hF5 hz5))
                go_roundg (M - (i + 1))
                case rel => exact ⟨i + 1, by omega, box rfl, by go_num, by rw [hnx.out]; exact hF5.tail.tail⟩
                case measure => have := hk.out; omega
              · obtain rfl : i = 0 := by omega
                go_wp2_with (first | ((with_reducible refine lst (by with_unfolding_all rfl) (wp_fbsl T_u8 hF (vs := [bv 48]) (by with_unfolding_all rfl) (by with_unfolding_all rfl) (by with_unfolding_all rfl) (by decide) (by simp [bv, Value.cells]) ?_)); intro w4 g4 hF4 hz4; have hr4 : Rd w4 (· < w4.heap.size) (some ⟨g4, 0, none⟩) 1 1 ([48].map bv) := hF4.rdOwn0; replace hF4 : Fr _ _ w4 (Ent.bytes _ 5 (.slice (some ⟨g4, 0, none⟩) 1 1) [48] :: _) := hF4) | ((with_reducible refine lst (by with_unfolding_all rfl) (wp_fapp1 T_u8 hF4 (Nat.le_refl _) hr4 (by with_unfolding_all exact ⟨_, _, rfl, rfl, rfl⟩) (by omega) ?_)); intro v5 w5 hF5 hz5))
                go_roundg (M - 1)
                case rel => exact ⟨1, by omega, box rfl, rfl, hF5.tail⟩
                case measure => have := hk.out; omega
            · have hiM : M = i := by omega
              subst hiM
              clear hk hi hlt hzl
              have hYe : Y = nestP D ++ [49] ++ nestC D := by rw [hY.out, hP.out, hXe]
              have hzll : (zB M).length ≤ 10000 := by
                cases M with
                | zero => simp [zB]
                | succ i => rw [zB_len]; omega
              have hmk : (P.length : Int) = ((nestP D).length : Int) := by rw [hP.out]
              have hok := nests_ok D hD
              unfold nestOk at hok
              have hzp := zL_parse (k := M) hM
              have hpr := parse_F hF (hL.on hF.below) hF.size hco (by omega) (hF.rdOwn (i := 1) rfl)
              rw [hYe] at hpr
              have hro1 := hF.rdOwn (i := 1) rfl
              clear hXe hY hXl hro
              rw [← hYe] at hpr
              cases hj : jParse Y with
              | ok v =>
                rw [← hYe, hj] at hok
                rw [hj] at hpr
                unfold ParseEndF at hpr
                simp only [] at hpr hok
                simp only [Bool.and_eq_true, decide_eq_true_eq, Bool.or_eq_true, beq_iff_eq] at hok
                obtain ⟨hD16, hkid⟩ := hok
                have d1 : decide ((D : Int) ≤ 16) = true := decide_eq_true (by omega)
                have d2 : decide ((16 : Int) < (D : Int)) = false := decide_eq_false (by omega)
                clear hj hYe
                go_wp2_with fail
                refine hpr.mono ?_
                rintro e w7 ⟨cs, es, rfl, hvt, hF7⟩
                obtain ⟨kv, nv, tv, nsv, ksv⟩ := v
                obtain ⟨An, nn, cn, Ak, ck, xs, TE, hcn, hck, rfl, -, -, -⟩ := hvt.kids hF7
                have hkl : ksv.length = 1 ∨ D = 0 := hkid.symm
                clear hkid hvt hpr
                have hF8 := hF7.perm (List.perm_append_comm (l₁ := es))
                simp only [List.cons_append, List.nil_append] at hF8
                go_upto_region 25 with (first | ((with_reducible refine lst (by with_unfolding_all rfl) (wp_falloc hF8 (cs := vl0) (z := .agg (List.toArray (vl0))) rfl (by kernel_rfl) (by with_unfolding_all rfl) ?_)); intro w9 g9 hF9 hz9) | ((with_reducible refine lst (by with_unfolding_all rfl) (wp_fstA0 hF9 (by with_unfolding_all exact ⟨_, _, rfl, rfl, rfl⟩) (by rw [vlL_len]; kernel_rfl) vlL_one vlL_fit vlL_spl ?_)); intro w10 hF10 hz10))
                rcases Nat.lt_or_ge M 4096 with hM4 | hM4
                · obtain ⟨u, hu, hul⟩ := hzp.1 hM4
                  have m1 : decide ((M : Int) < 4096) = true := decide_eq_true (by omega)
                  clear hzp
                  go_wp2_with (first | ((with_reducible refine lst (by with_unfolding_all rfl) (wp_fbsl T_u8 hF10 (vs := [bv 93]) (by with_unfolding_all rfl) (by with_unfolding_all rfl) (by with_unfolding_all rfl) (by decide) (by simp [bv, Value.cells]) ?_)); intro w14 g14 hF14 hz14; have hr14 : Rd w14 (· < w14.heap.size) (some ⟨g14, 0, none⟩) 1 1 ([93].map bv) := hF14.rdOwn0; replace hF14 : Fr _ _ w14 (Ent.bytes _ 5 (.slice (some ⟨g14, 0, none⟩) 1 1) [93] :: _) := hF14) | ((with_reducible refine lst (by with_unfolding_all rfl) (wp_fapp2 T_u8 hF14 (Nat.le_refl _) hr14 (by with_unfolding_all exact ⟨_, _, rfl, rfl, rfl⟩) (by omega) ?_)); intro v15 w15 hF15 hz15))
                  obtain ⟨A15, c15, rfl, hc15⟩ := hF15.ownParts (i := 2) rfl
                  have hp2 := parse_F hF15 (hL.on hF15.below) hF15.size hc15 (by rw [List.length_append]; simp only [List.length_cons, List.length_nil]; omega) (hF15.rdOwn (i := 2) rfl)
                  rw [show zB M ++ [93] = zL M from rfl, hu] at hp2
                  unfold ParseEndF at hp2
                  simp only [] at hp2
                  clear hu
                  refine hp2.mono ?_
                  rintro e w16 ⟨cs2, es2, rfl, hvt2, hF16⟩
                  obtain ⟨ku, nu, tu, nsu, ksu⟩ := u
                  obtain ⟨An2, nn2, cn2, Ak2, ck2, xs2, TE2, hcn2, hck2, rfl, -, -, -⟩ := hvt2.kids hF16
                  have hul' : ksu.length = M := hul
                  clear hul hvt2 hp2
                  rw [hul']
                  replace hul' := box hul'
                  have hF17 := hF16.perm (List.perm_append_comm (l₁ := es2))
                  simp only [List.cons_append, List.nil_append] at hF17
                  go_upto_region 26 with (first | ((with_reducible refine lst (by with_unfolding_all rfl) (wp_falloc hF17 (cs := vl0) (z := .agg (List.toArray (vl0))) rfl (by kernel_rfl) (by with_unfolding_all rfl) ?_)); intro w18 g18 hF18 hz18) | ((with_reducible refine lst (by with_unfolding_all rfl) (wp_fstA0 hF18 (by with_unfolding_all exact ⟨_, _, rfl, rfl, rfl⟩) (by rw [vlL_len]; kernel_rfl) vlL_one vlL_fit vlL_spl ?_)); intro w19 hF19 hz19))
                  have haw := awake_any _ w.heap.size hF19.size (hL.on hF19.below)
                  rcases Nat.eq_zero_or_pos D with hD0 | hD0
                  · subst hD0
                    clear hkl d1 d2 hmk
                    go_wp2_with fail
                    refine haw.mono ?_
                    rintro e w20 ⟨rfl, hb20⟩
                    have hF20 := hF19.call hb20
                    go_wp2_with (first | (with_reducible refine lst (by with_unfolding_all rfl) (wp_fld2 hF20 Tryd.underlying25 rfl (by with_unfolding_all exact ⟨_, rfl, rfl⟩) rfl ?_)) | (with_reducible refine lst (by with_unfolding_all rfl) (wp_fld0 hF20 Tryd.underlying25 rfl (by with_unfolding_all exact ⟨_, rfl, rfl⟩) rfl ?_)))
                    go_ret
                    exact ⟨rfl, hF20.below⟩
                  · have hk1 : ksv.length = 1 := hkl.resolve_right (by omega)
                    rw [hk1] at hF19
                    rw [hk1]
                    clear hkl
                    replace hk1 := box hk1
                    replace hD0 : 0 < D := hD0
                    go_wp2_with fail
                    refine haw.mono ?_
                    rintro e w20 ⟨rfl, hb20⟩
                    have hF20 := hF19.call hb20
                    go_wp2_with (first | (with_reducible refine lst (by with_unfolding_all rfl) (wp_fld2 hF20 Tryd.underlying25 rfl (by with_unfolding_all exact ⟨_, rfl, rfl⟩) rfl ?_)) | (with_reducible refine lst (by with_unfolding_all rfl) (wp_fld0 hF20 Tryd.underlying25 rfl (by with_unfolding_all exact ⟨_, rfl, rfl⟩) rfl ?_)))
                    go_ret
                    exact ⟨rfl, hF20.below⟩
                · have hu := hzp.2 hM4
                  have m1 : decide ((M : Int) < 4096) = false := decide_eq_false (by omega)
                  have m2 : decide ((4096 : Int) ≤ (M : Int)) = true := decide_eq_true (by omega)
                  clear hzp
                  go_wp2_with (first | ((with_reducible refine lst (by with_unfolding_all rfl) (wp_fbsl T_u8 hF10 (vs := [bv 93]) (by with_unfolding_all rfl) (by with_unfolding_all rfl) (by with_unfolding_all rfl) (by decide) (by simp [bv, Value.cells]) ?_)); intro w14 g14 hF14 hz14; have hr14 : Rd w14 (· < w14.heap.size) (some ⟨g14, 0, none⟩) 1 1 ([93].map bv) := hF14.rdOwn0; replace hF14 : Fr _ _ w14 (Ent.bytes _ 5 (.slice (some ⟨g14, 0, none⟩) 1 1) [93] :: _) := hF14) | ((with_reducible refine lst (by with_unfolding_all rfl) (wp_fapp2 T_u8 hF14 (Nat.le_refl _) hr14 (by with_unfolding_all exact ⟨_, _, rfl, rfl, rfl⟩) (by omega) ?_)); intro v15 w15 hF15 hz15))
                  obtain ⟨A15, c15, rfl, hc15⟩ := hF15.ownParts (i := 2) rfl
                  have hp2 := parse_F hF15 (hL.on hF15.below) hF15.size hc15 (by rw [List.length_append]; simp only [List.length_cons, List.length_nil]; omega) (hF15.rdOwn (i := 2) rfl)
                  rw [show zB M ++ [93] = zL M from rfl, hu] at hp2
                  unfold ParseEndF at hp2
                  simp only [] at hp2
                  clear hu
                  refine hp2.mono ?_
                  rintro e w16 ⟨rfl, hF17⟩
                  clear hp2
                  go_upto_region 26 with (first | ((with_reducible refine lst (by with_unfolding_all rfl) (wp_falloc hF17 (cs := vl0) (z := .agg (List.toArray (vl0))) rfl (by kernel_rfl) (by with_unfolding_all rfl) ?_)); intro w18 g18 hF18 hz18) | ((with_reducible refine lst (by with_unfolding_all rfl) (wp_fstA0 hF18 (by with_unfolding_all exact ⟨_, _, rfl, rfl, rfl⟩) (by rw [vlL_len]; kernel_rfl) vlL_one vlL_fit vlL_spl ?_)); intro w19 hF19 hz19))
                  have haw := awake_any _ w.heap.size hF19.size (hL.on hF19.below)
                  rcases Nat.eq_zero_or_pos D with hD0 | hD0
                  · subst hD0
                    clear hkl d1 d2 hmk
                    go_wp2_with fail
                    refine haw.mono ?_
                    rintro e w20 ⟨rfl, hb20⟩
                    have hF20 := hF19.call hb20
                    go_wp2_with (first | (with_reducible refine lst (by with_unfolding_all rfl) (wp_fld2 hF20 Tryd.underlying25 rfl (by with_unfolding_all exact ⟨_, rfl, rfl⟩) rfl ?_)) | (with_reducible refine lst (by with_unfolding_all rfl) (wp_fld0 hF20 Tryd.underlying25 rfl (by with_unfolding_all exact ⟨_, rfl, rfl⟩) rfl ?_)))
                    go_ret
                    exact ⟨rfl, hF20.below⟩
                  · have hk1 : ksv.length = 1 := hkl.resolve_right (by omega)
                    rw [hk1] at hF19
                    rw [hk1]
                    clear hkl
                    replace hk1 := box hk1
                    replace hD0 : 0 < D := hD0
                    go_wp2_with fail
                    refine haw.mono ?_
                    rintro e w20 ⟨rfl, hb20⟩
                    have hF20 := hF19.call hb20
                    go_wp2_with (first | (with_reducible refine lst (by with_unfolding_all rfl) (wp_fld2 hF20 Tryd.underlying25 rfl (by with_unfolding_all exact ⟨_, rfl, rfl⟩) rfl ?_)) | (with_reducible refine lst (by with_unfolding_all rfl) (wp_fld0 hF20 Tryd.underlying25 rfl (by with_unfolding_all exact ⟨_, rfl, rfl⟩) rfl ?_)))
                    go_ret
                    exact ⟨rfl, hF20.below⟩
              | error z =>
                rw [← hYe, hj] at hok
                rw [hj] at hpr
                unfold ParseEndF at hpr
                simp only [] at hpr hok
                simp only [Bool.and_eq_true, decide_eq_true_eq, beq_iff_eq] at hok
                obtain ⟨⟨hD16, hz2⟩, hz1⟩ := hok
                obtain ⟨z1, z2⟩ := z
                simp only [] at hz1 hz2 hpr
                subst hz2
                have d1 : decide ((D : Int) ≤ 16) = false := decide_eq_false (by omega)
                have d2 : decide ((16 : Int) < (D : Int)) = true := decide_eq_true (by omega)
                have d3 : decide (((nestP D).length : Int) ≤ (z1 : Int)) = false := decide_eq_false (by omega)
                clear hj hYe
                go_wp2_with fail
                refine hpr.mono ?_
                rintro e w7 ⟨rfl, hF8⟩
                clear hpr
                go_upto_region 25 with (first | ((with_reducible refine lst (by with_unfolding_all rfl) (wp_falloc hF8 (cs := vl0) (z := .agg (List.toArray (vl0))) rfl (by kernel_rfl) (by with_unfolding_all rfl) ?_)); intro w9 g9 hF9 hz9) | ((with_reducible refine lst (by with_unfolding_all rfl) (wp_fstA0 hF9 (by with_unfolding_all exact ⟨_, _, rfl, rfl, rfl⟩) (by rw [vlL_len]; kernel_rfl) vlL_one vlL_fit vlL_spl ?_)); intro w10 hF10 hz10))
                rcases Nat.lt_or_ge M 4096 with hM4 | hM4
                · obtain ⟨u, hu, hul⟩ := hzp.1 hM4
                  have m1 : decide ((M : Int) < 4096) = true := decide_eq_true (by omega)
                  clear hzp
                  go_wp2_with (first | ((with_reducible refine lst (by with_unfolding_all rfl) (wp_fbsl T_u8 hF10 (vs := [bv 93]) (by with_unfolding_all rfl) (by with_unfolding_all rfl) (by with_unfolding_all rfl) (by decide) (by simp [bv, Value.cells]) ?_)); intro w14 g14 hF14 hz14; have hr14 : Rd w14 (· < w14.heap.size) (some ⟨g14, 0, none⟩) 1 1 ([93].map bv) := hF14.rdOwn0; replace hF14 : Fr _ _ w14 (Ent.bytes _ 5 (.slice (some ⟨g14, 0, none⟩) 1 1) [93] :: _) := hF14) | ((with_reducible refine lst (by with_unfolding_all rfl) (wp_fapp2 T_u8 hF14 (Nat.le_refl _) hr14 (by with_unfolding_all exact ⟨_, _, rfl, rfl, rfl⟩) (by omega) ?_)); intro v15 w15 hF15 hz15))
                  obtain ⟨A15, c15, rfl, hc15⟩ := hF15.ownParts (i := 2) rfl
                  have hp2 := parse_F hF15 (hL.on hF15.below) hF15.size hc15 (by rw [List.length_append]; simp only [List.length_cons, List.length_nil]; omega) (hF15.rdOwn (i := 2) rfl)
                  rw [show zB M ++ [93] = zL M from rfl, hu] at hp2
                  unfold ParseEndF at hp2
                  simp only [] at hp2
                  clear hu
                  refine hp2.mono ?_
                  rintro e w16 ⟨cs2, es2, rfl, hvt2, hF16⟩
                  obtain ⟨ku, nu, tu, nsu, ksu⟩ := u
                  obtain ⟨An2, nn2, cn2, Ak2, ck2, xs2, TE2, hcn2, hck2, rfl, -, -, -⟩ := hvt2.kids hF16
                  have hul' : ksu.length = M := hul
                  clear hul hvt2 hp2
                  rw [hul']
                  replace hul' := box hul'
                  have hF17 := hF16.perm (List.perm_append_comm (l₁ := es2))
                  simp only [List.cons_append, List.nil_append] at hF17
                  go_upto_region 26 with (first | ((with_reducible refine lst (by with_unfolding_all rfl) (wp_falloc hF17 (cs := vl0) (z := .agg (List.toArray (vl0))) rfl (by kernel_rfl) (by with_unfolding_all rfl) ?_)); intro w18 g18 hF18 hz18) | ((with_reducible refine lst (by with_unfolding_all rfl) (wp_fstA0 hF18 (by with_unfolding_all exact ⟨_, _, rfl, rfl, rfl⟩) (by rw [vlL_len]; kernel_rfl) vlL_one vlL_fit vlL_spl ?_)); intro w19 hF19 hz19))
                  have haw := awake_any _ w.heap.size hF19.size (hL.on hF19.below)
                  go_wp2_with fail
                  refine haw.mono ?_
                  rintro e w20 ⟨rfl, hb20⟩
                  have hF20 := hF19.call hb20
                  go_wp2_with (first | (with_reducible refine lst (by with_unfolding_all rfl) (wp_fld2 hF20 Tryd.underlying25 rfl (by with_unfolding_all exact ⟨_, rfl, rfl⟩) rfl ?_)) | (with_reducible refine lst (by with_unfolding_all rfl) (wp_fld0 hF20 Tryd.underlying25 rfl (by with_unfolding_all exact ⟨_, rfl, rfl⟩) rfl ?_)))
                  go_ret
                  exact ⟨rfl, hF20.below⟩
                · have hu := hzp.2 hM4
                  have m1 : decide ((M : Int) < 4096) = false := decide_eq_false (by omega)
                  have m2 : decide ((4096 : Int) ≤ (M : Int)) = true := decide_eq_true (by omega)
                  clear hzp
                  go_wp2_with (first | ((with_reducible refine lst (by with_unfolding_all rfl) (wp_fbsl T_u8 hF10 (vs := [bv 93]) (by with_unfolding_all rfl) (by with_unfolding_all rfl) (by with_unfolding_all rfl) (by decide) (by simp [bv, Value.cells]) ?_)); intro w14 g14 hF14 hz14; have hr14 : Rd w14 (· < w14.heap.size) (some ⟨g14, 0, none⟩) 1 1 ([93].map bv) := hF14.rdOwn0; replace hF14 : Fr _ _ w14 (Ent.bytes _ 5 (.slice (some ⟨g14, 0, none⟩) 1 1) [93] :: _) := hF14) | ((with_reducible refine lst (by with_unfolding_all rfl) (wp_fapp2 T_u8 hF14 (Nat.le_refl _) hr14 (by with_unfolding_all exact ⟨_, _, rfl, rfl, rfl⟩) (by omega) ?_)); intro v15 w15 hF15 hz15))
                  obtain ⟨A15, c15, rfl, hc15⟩ := hF15.ownParts (i := 2) rfl
                  have hp2 := parse_F hF15 (hL.on hF15.below) hF15.size hc15 (by rw [List.length_append]; simp only [List.length_cons, List.length_nil]; omega) (hF15.rdOwn (i := 2) rfl)
                  rw [show zB M ++ [93] = zL M from rfl, hu] at hp2
                  unfold ParseEndF at hp2
                  simp only [] at hp2
                  clear hu
                  refine hp2.mono ?_
                  rintro e w16 ⟨rfl, hF17⟩
                  clear hp2
                  go_upto_region 26 with (first | ((with_reducible refine lst (by with_unfolding_all rfl) (wp_falloc hF17 (cs := vl0) (z := .agg (List.toArray (vl0))) rfl (by kernel_rfl) (by with_unfolding_all rfl) ?_)); intro w18 g18 hF18 hz18) | ((with_reducible refine lst (by with_unfolding_all rfl) (wp_fstA0 hF18 (by with_unfolding_all exact ⟨_, _, rfl, rfl, rfl⟩) (by rw [vlL_len]; kernel_rfl) vlL_one vlL_fit vlL_spl ?_)); intro w19 hF19 hz19))
                  have haw := awake_any _ w.heap.size hF19.size (hL.on hF19.below)
                  go_wp2_with fail
                  refine haw.mono ?_
                  rintro e w20 ⟨rfl, hb20⟩
                  have hF20 := hF19.call hb20
                  go_wp2_with (first | (with_reducible refine lst (by with_unfolding_all rfl) (wp_fld2 hF20 Tryd.underlying25 rfl (by with_unfolding_all exact ⟨_, rfl, rfl⟩) rfl ?_)) | (with_reducible refine lst (by with_unfolding_all rfl) (wp_fld0 hF20 Tryd.underlying25 rfl (by with_unfolding_all exact ⟨_, rfl, rfl⟩) rfl ?_)))
                  go_ret
                  exact ⟨rfl, hF20.below⟩
        · obtain ⟨j', rfl⟩ : ∃ j', j = j' + 1 := ⟨j - 1, by omega⟩
          have hjj : ((j' + 1 : Nat) : Int) - 1 = (j' : Int) := by omega
          rw [hjj]
          clear hjj hj0
          by_cases hpar : j' % 2 = 0
          · have p1 : (j' : Int) % 2 = 0 := by omega
            have hX2 : Box (X ++ [93] ++ nestC j' = nestC D) := box (by rw [← hX.out, nestC, if_pos hpar]; simp)
            replace hpar := box hpar
            go_wp2_with (first | ((with_reducible refine lst (by with_unfolding_all rfl) (wp_fbsl T_u8 hF (vs := [bv 93]) (by with_unfolding_all rfl) (by with_unfolding_all rfl) (by with_unfolding_all rfl) (by decide) (by simp [bv, Value.cells]) ?_)); intro w2 g2 hF2 hz2; have hr2 : Rd w2 (· < w2.heap.size) (some ⟨g2, 0, none⟩) 1 1 ([93].map bv) := hF2.rdOwn0; replace hF2 : Fr _ _ w2 (Ent.bytes _ 5 (.slice (some ⟨g2, 0, none⟩) 1 1) [93] :: _) := hF2) | ((with_reducible refine lst (by with_unfolding_all rfl) (wp_fapp1 T_u8 hF2 (Nat.le_refl _) hr2 (by with_unfolding_all exact ⟨_, _, rfl, rfl, rfl⟩) (by omega) ?_)); intro v3 w3 hF3 hz3))
            go_roundg j'
            case rel => exact ⟨j', X ++ [93], by omega, box rfl, by go_num, hX2, by have := congrArg List.length hX2.out; simp [nestC_len] at this ⊢; omega, by have h3 := hF3.tail; rw [hY.out, List.append_assoc] at h3; exact h3⟩
            case measure => have := hk.out; omega
          · have p1 : (j' : Int) % 2 = 1 := by omega
            have hX2 : Box (X ++ [125] ++ nestC j' = nestC D) := box (by rw [← hX.out, nestC, if_neg hpar]; simp)
            replace hpar := box hpar
            go_wp2_with (first | ((with_reducible refine lst (by with_unfolding_all rfl) (wp_fbsl T_u8 hF (vs := [bv 125]) (by with_unfolding_all rfl) (by with_unfolding_all rfl) (by with_unfolding_all rfl) (by decide) (by simp [bv, Value.cells]) ?_)); intro w2 g2 hF2 hz2; have hr2 : Rd w2 (· < w2.heap.size) (some ⟨g2, 0, none⟩) 1 1 ([125].map bv) := hF2.rdOwn0; replace hF2 : Fr _ _ w2 (Ent.bytes _ 5 (.slice (some ⟨g2, 0, none⟩) 1 1) [125] :: _) := hF2) | ((with_reducible refine lst (by with_unfolding_all rfl) (wp_fapp1 T_u8 hF2 (Nat.le_refl _) hr2 (by with_unfolding_all exact ⟨_, _, rfl, rfl, rfl⟩) (by omega) ?_)); intro v3 w3 hF3 hz3))
            go_roundg j'
            case rel => exact ⟨j', X ++ [125], by omega, box rfl, by go_num, hX2, by have := congrArg List.length hX2.out; simp [nestC_len] at this ⊢; omega, by have h3 := hF3.tail; rw [hY.out, List.append_assoc] at h3; exact h3⟩
            case measure => have := hk.out; omega
end Go.Proofs.YtdekogmegdhjoaaDoor

namespace Go.Proofs.YtdekogmegdhjoaaDoor
open Go.RowKit Go.Lib

theorem cell_old {w w' : World} (hb : Below w.heap.size w w') {a : Addr} {v : Value} (h : w.cell? a = some v) : w'.cell? a = some v := by
  have hlt : a.block < w.heap.size := by
    rcases Nat.lt_or_ge a.block w.heap.size with h' | h'
    · exact h'
    · exfalso
      unfold World.cell? at h
      rw [Array.getElem?_eq_none h'] at h
      cases h
  rw [← h]
  exact World.cell?_of_block (w := w) (hb.block _ hlt)
theorem var_old {P : Program} {w w' : World} (hb : Below w.heap.size w w') {n : String} {cs : Array Value} (h : w.var? P n = some cs) : w'.var? P n = some cs := by
  unfold World.var? at *
  cases hg : P.globalNamed n with
  | none => simp [hg] at h
  | some g =>
    simp only [hg, Option.bind_some] at h ⊢
    have hlt : g < w.heap.size := by
      rcases Nat.lt_or_ge g w.heap.size with h' | h'
      · exact h'
      · rw [Array.getElem?_eq_none h'] at h; simp at h
    rw [hb.block g hlt]
    exact h
theorem laid_all (W : World) (h : laidMetH Tryd.prog Rows.jsonNestsUptoRow.laid W) : laidMet Tryd.prog Rows.jsonNestsUptoRow.laid W := by
  rwa [MakeChecks.laidMetH_plain _ _ _ (by kernel_rfl)] at h
theorem first_eq : Rows.laid_unicode_utf8_first = firstData := by kernel_rfl
theorem accept_eq : (Rows.laid_unicode_utf8_acceptRanges : DataW Unit) = acceptData := by kernel_rfl
theorem pow_eq : (Rows.laid_internal_strconv_uint64pow10 : DataW Unit) = tabData .u64 pow10Tab := by kernel_rfl
theorem star_errs : "*" ++ "errors.errorString" = "*errors.errorString" := by decide
theorem row_errs (u : TypeId) (h : Tryd.prog.typeName? 3 u = some "*errors.errorString") : u = 139 :=
  typeName_ptr_named (nm := "errors.errorString") (by rw [star_errs]; kernel_rfl) (by kernel_rfl) (by decide) u (by rw [star_errs]; exact h)
theorem libs_of (W : World) (h : laidMetH Tryd.prog Rows.jsonNestsUptoRow.laid W) : LibsAt W.heap.size W := by
  have hL := laid_all W h
  have hL2 : laidMet Tryd.prog [("math/bits.deBruijn32tab", Rows.laid_math_bits_deBruijn32tab), ("math/bits.deBruijn64tab", Rows.laid_math_bits_deBruijn64tab), ("internal/strconv.uint64pow10", Rows.laid_internal_strconv_uint64pow10), ("unicode/utf8.acceptRanges", Rows.laid_unicode_utf8_acceptRanges), ("strconv.ErrRange", Rows.laid_strconv_ErrRange), ("strconv.ErrSyntax", Rows.laid_strconv_ErrSyntax), ("unicode/utf8.first", Rows.laid_unicode_utf8_first)] W := hL
  rw [first_eq, accept_eq, pow_eq] at hL2
  have hU : U8Tabs W := utf8Tabs_of_readsT (U8Types.of196 Tryd.laysValid) ⟨by kernel_rfl, by kernel_rfl, by kernel_rfl, by kernel_rfl, by kernel_rfl, by kernel_rfl, by kernel_rfl⟩ (laidMet.reads hL2 (by simp)) (laidMet.reads hL2 (by simp))
  have hP : TabIs Tryd.prog W "internal/strconv.uint64pow10" .u64 pow10Tab := tabIs_of_head (g := 4) (by kernel_rfl) (by kernel_rfl) (t := 133) Tryd.underlying133 Tryd.underlying111 (by kernel_rfl) (by kernel_rfl) hL2.tail.tail
  obtain ⟨a1, s1, hv1, _⟩ := laid_sentinel (g := 3) hL2.tail.tail.tail.tail (by kernel_rfl) (by kernel_rfl) Tryd.underlying90 row_errs Tryd.underlying139 Tryd.underlying141 rfl rfl Tryd.underlying9 (by kernel_rfl) (by kernel_rfl)
  obtain ⟨a2, s2, hv2, _⟩ := laid_sentinel (g := 2) hL2.tail.tail.tail.tail.tail (by kernel_rfl) (by kernel_rfl) Tryd.underlying90 row_errs Tryd.underlying139 Tryd.underlying141 rfl rfl Tryd.underlying9 (by kernel_rfl) (by kernel_rfl)
  exact ⟨fun w' hb => ⟨fun c hc => cell_old hb (hU.1 c hc), fun i hi => ⟨cell_old hb (hU.2 i hi).1, cell_old hb (hU.2 i hi).2⟩⟩, tabBelow_of_tabIs hP, ⟨_, _, fun w' hb => var_old hb hv2⟩, ⟨_, _, fun w' hb => var_old hb hv1⟩⟩
end Go.Proofs.YtdekogmegdhjoaaDoor

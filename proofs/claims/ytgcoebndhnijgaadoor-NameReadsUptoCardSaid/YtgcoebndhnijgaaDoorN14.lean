/-
  Layer 7: the walk of the law on references that are read.
-/
import Derived.Test.YtgcoebndhnijgaaDoorN12
import Derived.Test.YtgcoebndhnijgaaDoorN13
namespace Go.Proofs.YtgcoebndhnijgaaDoor
open Go.RowKit

theorem sameRf_self (r : NRef) : sameRf r r = true := by simp [sameRf]

set_option maxRecDepth 20000 in
set_option maxHeartbeats 1600000 in
theorem nameReads_any (s : ByteArray) (w : World) (hM : MaxW w) (hs : s.size ≤ 4000000000) : Calls Tryd.prog 7 #[.string s] w fun e w' => e = .returned (.bool true) ∧ Below w.heap.size w w' := by
  have hF0 := Fr.nil w
  have h1 := box (fun w (hM : MaxW w) => parse_any s w hM (by omega))
  have h2 := box (fun w => parseF_any s w (by omega))
  have hd := parse_32 s.data.toList
  generalize parseR s.data.toList = pr at *
  obtain ⟨E, r⟩ := pr
  simp only [] at h1 h2 hd
  have hL := box (r.len hd)
  have hdm : Box ((r.d.map bv).length = 32) := box (by rw [List.length_map]; exact hd)
  replace hd := box hd
  have hsf := sameRf_self r
  go_enter Tryd.func7, Tryd.ntmps7
  go_wp2_with fail
  refine (h1.out _ hM).mono ?_
  rintro e w1 ⟨rfl, hb1⟩
  have hF1 := hF0.call hb1
  go_wp2_with (first | ((with_reducible refine lst (by with_unfolding_all rfl) (wp_falloc hF1 (cs := rf0) (z := .agg (List.toArray (rf0))) rfl (by kernel_rfl) (by with_unfolding_all rfl) ?_)); intro w2 g2 hF2 hz2) | ((with_reducible refine lst (by with_unfolding_all rfl) (wp_fstA0 hF2 (by with_unfolding_all exact ⟨_, _, rfl, rfl, rfl⟩) (by rw [hL.out]; kernel_rfl) (NRef.one _) (by rw [hL.out, rf0_len]; omega) (spl_all (by rw [hL.out, rf0_len])) ?_)); intro w3 hF3 hz3))
  refine (h2.out _).mono ?_
  rintro e w4 ⟨rfl, hb4⟩
  have hF4 := hF3.call hb4
  go_wp2_with (first | ((with_reducible refine lst (by with_unfolding_all rfl) (wp_falloc hF4 (cs := rf0) (z := .agg (List.toArray (rf0))) rfl (by kernel_rfl) (by with_unfolding_all rfl) ?_)); intro w5 g5 hF5 hz5) | ((with_reducible refine lst (by with_unfolding_all rfl) (wp_fstA0 hF5 (by with_unfolding_all exact ⟨_, _, rfl, rfl, rfl⟩) (by rw [hL.out]; kernel_rfl) (NRef.one _) (by rw [hL.out, rf0_len]; omega) (spl_all (by rw [hL.out, rf0_len])) ?_)); intro w6 hF6 hz6))
  refine (awake_any _ (hF6.maxW hM)).mono ?_
  rintro e w7 ⟨rfl, hb7⟩
  have hF7 := hF6.call hb7
  clear hF0 hF1 hF2 hF3 hF4 hF5 hF6
  go_wp2_with (first | (with_reducible refine lst (by with_unfolding_all rfl) (wp_fldA1 hF7 Tryd.underlying28 rfl (by with_unfolding_all exact ⟨_, rfl, rfl⟩) (ds := r.cells) (by rw [hL.out]; kernel_rfl) (take_all _) ?_)) | (with_reducible refine lst (by with_unfolding_all rfl) (wp_fld0 hF7 Tryd.underlying9 rfl (by with_unfolding_all exact ⟨_, rfl, rfl⟩) rfl ?_)) | (with_reducible refine lst (by with_unfolding_all rfl) (wp_fld0 hF7 Tryd.underlying4 rfl (by with_unfolding_all exact ⟨_, rfl, rfl⟩) rfl ?_)) | (with_reducible refine lst (by with_unfolding_all rfl) (wp_fldA0 hF7 Tryd.underlying25 rfl (by with_unfolding_all exact ⟨_, rfl, rfl⟩) (ds := (r.d.map bv)) (by rw [hdm.out]; kernel_rfl) (NRef.dig _) ?_)) | (with_reducible refine lst (by with_unfolding_all rfl) (wp_fbuild Tryd.underlying28 (z := .agg (List.toArray rf0)) (by kernel_rfl) (pl := rfP) (by kernel_rfl) (cs := r.cells) rfl (vs := [(0, .string r.repo), (1, .string r.tag), (2, .bool r.pin), (3, .agg (r.d.map bv).toArray)]) (by with_unfolding_all rfl) (by with_unfolding_all exact rf_fill hdm.out rfl rfl rfl) ?_)) | (with_reducible refine lst (by with_unfolding_all rfl) (wp_eqR (x := r) (y := r) ⟨Tryd.underlying28, by kernel_rfl, by kernel_rfl, by kernel_rfl, by kernel_rfl, Tryd.underlying5, by kernel_rfl, by kernel_rfl, by kernel_rfl⟩ hd.out hd.out (by with_unfolding_all rfl) (by with_unfolding_all rfl) (by with_unfolding_all rfl) ?_)))
  go_ret
  exact ⟨ret1 (by simp), hF7.below⟩
end Go.Proofs.YtgcoebndhnijgaaDoor

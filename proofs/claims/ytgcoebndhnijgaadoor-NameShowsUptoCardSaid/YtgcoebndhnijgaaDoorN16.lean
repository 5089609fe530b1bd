/-
  Layer 7: the walk of the law on references that are shown.
-/
import Derived.Test.YtgcoebndhnijgaaDoorN12
import Derived.Test.YtgcoebndhnijgaaDoorN15
namespace Go.Proofs.YtgcoebndhnijgaaDoor
open Go.RowKit

set_option maxRecDepth 20000 in
set_option maxHeartbeats 1600000 in
theorem nameShows_any (r : NRef) (w : World) (hM : MaxW w) (hd : r.d.length = 32) (hs : r.repo.size ≤ 4000000000) (ht : r.tag.size ≤ 4000000000) : Calls Tryd.prog 8 #[.agg r.cells.toArray] w fun e w' => e = .returned (.bool true) ∧ Below w.heap.size w w' := by
  have hF0 := Fr.nil w
  have h1 := box (fun w (hM : MaxW w) => show_any r w hM hd hs ht)
  have h2 := box (fun w => showF_any r w hd hs ht)
  have hL := box (r.len hd)
  have hdm : Box ((r.d.map bv).length = 32) := box (by rw [List.length_map]; exact hd)
  generalize showR r = pr at *
  obtain ⟨E, l⟩ := pr
  simp only [] at h1 h2
  replace hd := box hd
  generalize bs l = t at *
  go_enter Tryd.func8, Tryd.ntmps8
  go_wp2_with (first | ((with_reducible refine lst (by with_unfolding_all rfl) (wp_fbox hF0 (cs := r.cells) rfl (by with_unfolding_all rfl) (by with_unfolding_all rfl) ?_)); intro w1 g1 hF1 hz1) | (with_reducible refine lst (by with_unfolding_all rfl) (wp_fld0 hF1 Tryd.underlying9 rfl (by with_unfolding_all exact ⟨_, rfl, rfl⟩) rfl ?_)) | (with_reducible refine lst (by with_unfolding_all rfl) (wp_fld0 hF1 Tryd.underlying4 rfl (by with_unfolding_all exact ⟨_, rfl, rfl⟩) rfl ?_)) | (with_reducible refine lst (by with_unfolding_all rfl) (wp_fldA0 hF1 Tryd.underlying25 rfl (by with_unfolding_all exact ⟨_, rfl, rfl⟩) (ds := (r.d.map bv)) (by rw [hdm.out]; kernel_rfl) (NRef.dig _) ?_)) | (with_reducible refine lst (by with_unfolding_all rfl) (wp_fbuild Tryd.underlying28 (z := .agg (List.toArray rf0)) (by kernel_rfl) (pl := rfP) (by kernel_rfl) (cs := r.cells) rfl (vs := [(0, .string r.repo), (1, .string r.tag), (2, .bool r.pin), (3, .agg (r.d.map bv).toArray)]) (by with_unfolding_all rfl) (by with_unfolding_all exact rf_fill hdm.out rfl rfl rfl) ?_)))
  refine (h1.out _ (hF1.maxW hM)).mono ?_
  rintro e w2 ⟨rfl, hb2⟩
  have hF2 := hF1.call hb2
  go_wp2_with (first | (with_reducible refine lst (by with_unfolding_all rfl) (wp_fldA0 hF2 Tryd.underlying33 rfl (by with_unfolding_all exact ⟨_, rfl, rfl⟩) (ds := r.cells) (by rw [hL.out]; kernel_rfl) (take_all _) ?_)))
  refine (h2.out _).mono ?_
  rintro e w3 ⟨rfl, hb3⟩
  have hF3 := hF2.call hb3
  go_wp2_with fail
  refine (awake_any _ (hF3.maxW hM)).mono ?_
  rintro e w4 ⟨rfl, hb4⟩
  have hF4 := hF3.call hb4
  go_wp2_with fail
  go_ret
  exact ⟨ret1 (by simp), hF4.below⟩
end Go.Proofs.YtgcoebndhnijgaaDoor

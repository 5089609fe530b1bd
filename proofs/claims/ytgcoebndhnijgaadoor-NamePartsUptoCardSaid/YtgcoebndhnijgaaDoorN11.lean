/-
  Layer 7: the walk of awake.
-/
import Derived.Test.YtgcoebndhnijgaaDoorN10
import Derived.Test.YtgcoebndhnijgaaDoorNEq
namespace Go.Proofs.YtgcoebndhnijgaaDoor
open Go.RowKit

def awR : NRef := ⟨⟨#[97, 47, 98, 45, 99]⟩, ⟨#[118, 49]⟩, false, zeros⟩
def awS : ByteArray := ⟨#[97, 47, 98, 45, 99, 58, 118, 49]⟩
def awT : ByteArray := ⟨#[97, 58]⟩
def awM : ByteArray := ⟨#[97, 112, 112, 108, 105, 99, 97, 116, 105, 111, 110, 47, 118, 110, 100, 46, 120, 43, 106, 115, 111, 110]⟩
theorem aw1 : parseR awS.data.toList = (0, awR) := by with_unfolding_all rfl
theorem aw2 : parseR awT.data.toList = (71, .zero) := by with_unfolding_all rfl
theorem aw3 : mediaB awM.data.toList = true := by with_unfolding_all rfl
theorem aw4 : sameRf awR awR = true := by with_unfolding_all rfl

set_option maxRecDepth 20000 in
set_option maxHeartbeats 1600000 in
theorem awake_any (w : World) (hM : MaxW w) : Calls Tryd.prog 10 #[] w fun e w' => e = .returned (.bool true) ∧ Below w.heap.size w w' := by
  have hF0 := Fr.nil w
  have h1 := box (fun w h => parse_any awS w h (by decide))
  have h2 := box (fun w h => parse_any awT w h (by decide))
  have h3 := box (fun w h => media_any awM w h (by decide))
  rw [aw1] at h1
  rw [aw2] at h2
  rw [aw3] at h3
  have hz0 := box zeros_len
  have haw : Box (awR.d.length = 32) := box rfl
  have haL : Box (awR.cells.length = 35) := box rfl
  have hzL : Box (NRef.zero.cells.length = 35) := box rfl
  have h4 := aw4
  go_enter Tryd.func10, Tryd.ntmps10
  go_wp2_with fail
  refine (h1.out _ hM).mono ?_
  rintro e w1 ⟨rfl, hb1⟩
  have hF1 := hF0.call hb1
  go_wp2_with (first | ((with_reducible refine lst (by with_unfolding_all rfl) (wp_falloc hF1 (cs := rf0) (z := .agg (List.toArray (rf0))) rfl (by kernel_rfl) (by with_unfolding_all rfl) ?_)); intro w2 g2 hF2 hz2) | ((with_reducible refine lst (by with_unfolding_all rfl) (wp_fstA0 hF2 (by with_unfolding_all exact ⟨_, _, rfl, rfl, rfl⟩) (by rw [haL.out]; kernel_rfl) (NRef.one _) (by rw [haL.out, rf0_len]; omega) (spl_all (by rw [haL.out, rf0_len])) ?_)); intro w3 hF3 hz3))
  refine (h2.out _ (hF3.maxW hM)).mono ?_
  rintro e w4 ⟨rfl, hb4⟩
  have hF4 := hF3.call hb4
  go_wp2_with (first | ((with_reducible refine lst (by with_unfolding_all rfl) (wp_falloc hF4 (cs := rf0) (z := .agg (List.toArray (rf0))) rfl (by kernel_rfl) (by with_unfolding_all rfl) ?_)); intro w5 g5 hF5 hz5) | ((with_reducible refine lst (by with_unfolding_all rfl) (wp_fstA0 hF5 (by with_unfolding_all exact ⟨_, _, rfl, rfl, rfl⟩) (by rw [hzL.out]; kernel_rfl) (NRef.one _) (by rw [hzL.out, rf0_len]; omega) (spl_all (by rw [hzL.out, rf0_len])) ?_)); intro w6 hF6 hz6) | (with_reducible refine lst (by with_unfolding_all rfl) (wp_fldA1 hF6 Tryd.underlying28 rfl (by with_unfolding_all exact ⟨_, rfl, rfl⟩) (ds := awR.cells) (by rw [haL.out]; kernel_rfl) (take_all _) ?_)) | (with_reducible refine lst (by with_unfolding_all rfl) (wp_fbuild Tryd.underlying28 (z := .agg (List.toArray rf0)) (by kernel_rfl) (pl := rfP) (by kernel_rfl) (cs := awR.cells) rfl (vs := [(0, .string ⟨#[97, 47, 98, 45, 99]⟩), (1, .string ⟨#[118, 49]⟩)]) (by with_unfolding_all rfl) (by with_unfolding_all exact rf_fill2 rfl rfl) ?_)) | (with_reducible refine lst (by with_unfolding_all rfl) (wp_eqR (x := awR) (y := awR) ⟨Tryd.underlying28, by kernel_rfl, by kernel_rfl, by kernel_rfl, by kernel_rfl, Tryd.underlying5, by kernel_rfl, by kernel_rfl, by kernel_rfl⟩ haw.out haw.out (by with_unfolding_all rfl) (by with_unfolding_all rfl) (by with_unfolding_all rfl) ?_)))
  refine (h3.out _ (hF6.maxW hM)).mono ?_
  rintro e w7 ⟨rfl, hb7⟩
  have hF7 := hF6.call hb7
  go_wp2_with fail
  go_ret
  exact ⟨rfl, hF7.below⟩
end Go.Proofs.YtgcoebndhnijgaaDoor

/-
  Layer 7: the walks of the laws on names, tags and media types.
-/
import Derived.Test.YtgcoebndhnijgaaDoorN2
import Derived.Test.YtgcoebndhnijgaaDoorN7
import Derived.Test.YtgcoebndhnijgaaDoorN11
import Derived.Test.YtgcoebndhnijgaaDoorShelf2
namespace Go.Proofs.YtgcoebndhnijgaaDoor
open Go.RowKit

theorem maxW_of {w : World} (h : w.ShapedOpen Tryd.prog) : MaxW w := Tryd.laysM145.s1_3 w h
theorem maxW_on {w w' : World} (h : MaxW w) (hb : Below w.heap.size w w') : MaxW w' := h.on hb

set_option maxRecDepth 20000 in
set_option maxHeartbeats 800000 in
theorem nameRepos_any (s : ByteArray) (w : World) (hM : MaxW w) (hs : s.size ≤ 4000000000) : Calls Tryd.prog 3 #[.string s] w fun e w' => e = .returned (.bool true) ∧ Below w.heap.size w w' := by
  have hF0 := Fr.nil w
  have h1 := box (fun w (hM : MaxW w) => repo_any s w hM (by omega))
  have h2 := box (fun w => repoF_any s w (by omega))
  generalize repoB s.data.toList = R at *
  go_enter Tryd.func3, Tryd.ntmps3
  go_wp2_with fail
  refine (awake_any _ hM).mono ?_
  rintro e w1 ⟨rfl, hb1⟩
  have hF1 := hF0.call hb1
  go_wp2_with fail
  refine (h1.out _ (hF1.maxW hM)).mono ?_
  rintro e w2 ⟨rfl, hb2⟩
  have hF2 := hF1.call hb2
  go_wp2_with fail
  refine (h2.out _).mono ?_
  rintro e w3 ⟨rfl, rfl⟩
  go_wp2_with fail
  go_ret
  exact ⟨ret1 (by simp), hF2.below⟩
set_option maxRecDepth 20000 in
set_option maxHeartbeats 800000 in
theorem nameTags_any (s : ByteArray) (w : World) (hM : MaxW w) (hs : s.size ≤ 4000000000) : Calls Tryd.prog 4 #[.string s] w fun e w' => e = .returned (.bool true) ∧ Below w.heap.size w w' := by
  have hF0 := Fr.nil w
  have h1 := box (fun w (hM : MaxW w) => tag_any s w (by omega))
  have h2 := box (fun w => tagF_any s w (by omega))
  generalize tagB s.data.toList = R at *
  go_enter Tryd.func4, Tryd.ntmps4
  go_wp2_with fail
  refine (awake_any _ hM).mono ?_
  rintro e w1 ⟨rfl, hb1⟩
  have hF1 := hF0.call hb1
  go_wp2_with fail
  refine (h1.out _ (hF1.maxW hM)).mono ?_
  rintro e w2 ⟨rfl, rfl⟩
  have hF2 := hF1
  go_wp2_with fail
  refine (h2.out _).mono ?_
  rintro e w3 ⟨rfl, rfl⟩
  go_wp2_with fail
  go_ret
  exact ⟨ret1 (by simp), hF2.below⟩
set_option maxRecDepth 20000 in
set_option maxHeartbeats 800000 in
theorem nameMedias_any (s : ByteArray) (w : World) (hM : MaxW w) (hs : s.size ≤ 4000000000) : Calls Tryd.prog 5 #[.string s] w fun e w' => e = .returned (.bool true) ∧ Below w.heap.size w w' := by
  have hF0 := Fr.nil w
  have h1 := box (fun w (hM : MaxW w) => media_any s w hM (by omega))
  have h2 := box (fun w => mediaF_any s w (by omega))
  generalize mediaB s.data.toList = R at *
  go_enter Tryd.func5, Tryd.ntmps5
  go_wp2_with fail
  refine (awake_any _ hM).mono ?_
  rintro e w1 ⟨rfl, hb1⟩
  have hF1 := hF0.call hb1
  go_wp2_with fail
  refine (h1.out _ (hF1.maxW hM)).mono ?_
  rintro e w2 ⟨rfl, hb2⟩
  have hF2 := hF1.call hb2
  go_wp2_with fail
  refine (h2.out _).mono ?_
  rintro e w3 ⟨rfl, rfl⟩
  go_wp2_with fail
  go_ret
  exact ⟨ret1 (by simp), hF2.below⟩
end Go.Proofs.YtgcoebndhnijgaaDoor

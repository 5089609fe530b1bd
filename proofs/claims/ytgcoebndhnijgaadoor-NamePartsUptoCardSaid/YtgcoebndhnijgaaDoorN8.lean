/-
  Layer 7: the walks of a sum's text, both texts of the program.
-/
import Derived.Test.YtgcoebndhnijgaaDoorNDig
import Derived.Test.YtgcoebndhnijgaaDoorHexC
import Derived.Test.YtgcoebndhnijgaaDoorFr4
import Derived.Test.YtgcoebndhnijgaaDoorN3
namespace Go.Proofs.YtgcoebndhnijgaaDoor
open Go.RowKit

theorem ext_take (s : ByteArray) (a : Nat) : (s.extract 0 a).data.toList = s.data.toList.take a := Lib.extract_from_zero s a

set_option maxRecDepth 20000 in
set_option maxHeartbeats 1600000 in
theorem dgParse_any (s : ByteArray) (w : World) (hs : s.size ≤ 140737488355000) :
    Calls Tryd.prog 28 #[.string s] w fun e w' => e = .returned (.tuple #[.agg (((dgP s.data.toList).getD zeros).map bv).toArray, .int .i64 (if (dgP s.data.toList).isSome = true then 0 else 10)]) ∧ Below w.heap.size w w' := by
  have hF0 := Fr.nil w
  have hz0 := box zeros_len
  have hlb := str_len s
  by_cases h71 : s.size = 71
  · have hl : (71 : Nat) ≤ s.size := by omega
    have hE : ((s.size : Int) != 71) = false := by rw [bne_eq_false_iff_eq]; omega
    by_cases h7 : s.data.toList.take 7 = sha7
    · rw [dgP_yes (by rw [hlb]; exact h71) h7]
      have hq : ((s.extract 0 7).toList == [115, 104, 97, 50, 53, 54, 58]) = true := by
        rw [beq_iff_eq, ByteArray.toList_eq, ext_take]; exact h7
      have hux := box (fun w => unhex_any (s.extract 7 s.size) w (by rw [ext_size]; omega) (if (unhexL (s.data.toList.drop 7)).isSome = true then 0 else 10) ((unhexL (s.data.toList.drop 7)).getD []) (box (by rw [ext_list]; exact ⟨rfl, rfl⟩)))
      have hdl := fun d (h : unhexL (s.data.toList.drop 7) = some d) => dgP_len (l := s.data.toList) (d := d) (by rw [dgP_yes (by rw [hlb]; exact h71) h7]; exact h)
      clear h71 hlb
      replace h7 := box h7
      cases hu : unhexL (s.data.toList.drop 7) with
      | none =>
        rw [hu] at hux
        simp only [Option.isSome_none, Option.getD_none, if_false, Bool.false_eq_true] at hux ⊢
        replace hu := box hu
        clear hdl
        go_enter Tryd.func28, Tryd.ntmps28
        go_wp2_with (first | ((with_reducible refine lst (by with_unfolding_all rfl) (wp_falloc hF0 (cs := (zeros.map bv)) (z := .agg (List.toArray ((zeros.map bv)))) rfl (by kernel_rfl) (by with_unfolding_all rfl) ?_)); intro w1 g1 hF1 hz1) | ((with_reducible refine lst (by with_unfolding_all rfl) (wp_falloc hF1 (cs := (zeros.map bv)) (z := .agg (List.toArray ((zeros.map bv)))) rfl (by kernel_rfl) (by with_unfolding_all rfl) ?_)); intro w2 g2 hF2 hz2))
        refine (hux.out _).mono ?_
        rintro e w3 ⟨v3, rfl, ho3, hb3⟩
        have hF4 := hF2.call hb3
        go_wp2_with (first | (with_reducible refine lst (by with_unfolding_all rfl) (wp_fldA0 hF4 Tryd.underlying26 rfl (by with_unfolding_all exact ⟨_, rfl, rfl⟩) (ds := (zeros.map bv)) (by rw [hz0.out]; kernel_rfl) (take_all _) ?_)) | ((with_reducible refine lst (by with_unfolding_all rfl) (wp_fstA1 hF4 (by with_unfolding_all exact ⟨_, _, rfl, rfl, rfl⟩) (by rw [hz0.out]; kernel_rfl) (bv_one _) (by rw [hz0.out]; omega) (spl_all rfl) ?_)); intro w5 hF5 hz5))
        exact bodyPost_ret (results_cellF2 rfl _ hF5 (i := 1) rfl rfl Tryd.underlying26 rfl (by rw [hz0.out]; kernel_rfl)) rfl ⟨rfl, hF5.below⟩
      | some d =>
        have hd := box (hdl d hu)
        rw [hu] at hux
        simp only [Option.isSome_some, Option.getD_some, if_true] at hux ⊢
        replace hu := box hu
        clear hdl
        have hdm : Box ((d.map bv).length = 32) := box (by rw [List.length_map]; exact hd.out)
        go_enter Tryd.func28, Tryd.ntmps28
        go_wp2_with (first | ((with_reducible refine lst (by with_unfolding_all rfl) (wp_falloc hF0 (cs := (zeros.map bv)) (z := .agg (List.toArray ((zeros.map bv)))) rfl (by kernel_rfl) (by with_unfolding_all rfl) ?_)); intro w1 g1 hF1 hz1) | ((with_reducible refine lst (by with_unfolding_all rfl) (wp_falloc hF1 (cs := (zeros.map bv)) (z := .agg (List.toArray ((zeros.map bv)))) rfl (by kernel_rfl) (by with_unfolding_all rfl) ?_)); intro w2 g2 hF2 hz2))
        refine (hux.out _).mono ?_
        rintro e w3 ⟨v3, rfl, ho3, hb3⟩
        obtain ⟨A3, c3, rfl, hc3, hr3⟩ := ho3.arg
        have hF4 := hF2.call hb3
        obtain ⟨Z, hZ, hZl⟩ : ∃ Z : List Value, Z = zeros.map bv ∧ Z.length = 32 := ⟨_, rfl, zeros_len⟩
        rw [← hZ] at hF4
        clear hZ hF0 hF1 hF2 hz1 hz2
        have hcp : Box (spl Z 0 ((d.map bv).take 32) = d.map bv) := box (by
          rw [List.take_of_length_le (by have := hdm.out; omega)]
          exact spl_all (by rw [hdm.out, hZl]))
        replace hZl := box hZl
        have hZ2 : 32 ≤ Z.length := by have := hZl.out; omega
        --DBG
        go_wp2_with (first | ((with_reducible refine lst (by with_unfolding_all rfl) (wp_fcopy0 Tryd.underlying56 (by kernel_rfl) hF4 hr3 (bv_one _) (by with_unfolding_all rfl) (by with_unfolding_all rfl) (by with_unfolding_all rfl) (by first | (simp; done) | (simp; omega)) hcp.out ?_)); intro w5 hF5 hz5) | (with_reducible refine lst (by with_unfolding_all rfl) (wp_fldA0 hF5 Tryd.underlying26 rfl (by with_unfolding_all exact ⟨_, rfl, rfl⟩) (ds := (d.map bv)) (by rw [hdm.out]; kernel_rfl) (take_all _) ?_)) | ((with_reducible refine lst (by with_unfolding_all rfl) (wp_fstA1 hF5 (by with_unfolding_all exact ⟨_, _, rfl, rfl, rfl⟩) (by rw [hdm.out]; kernel_rfl) (bv_one _) (by rw [hdm.out, hZl.out]; omega) (spl_all (by rw [hdm.out, hZl.out])) ?_)); intro w6 hF6 hz6))
        exact bodyPost_ret (results_cellF2 rfl _ hF6 (i := 1) rfl rfl Tryd.underlying26 rfl (by rw [hdm.out]; kernel_rfl)) rfl ⟨rfl, hF6.below⟩
    · rw [dgP_no2 h7]
      have hq : ((s.extract 0 7).toList == [115, 104, 97, 50, 53, 54, 58]) = false := by
        rw [beq_eq_false_iff_ne, ByteArray.toList_eq, ext_take]; exact h7
      clear h71 hlb
      replace h7 := box h7
      go_enter Tryd.func28, Tryd.ntmps28
      go_wp2_with (first | ((with_reducible refine lst (by with_unfolding_all rfl) (wp_falloc hF0 (cs := (zeros.map bv)) (z := .agg (List.toArray ((zeros.map bv)))) rfl (by kernel_rfl) (by with_unfolding_all rfl) ?_)); intro w1 g1 hF1 hz1) | ((with_reducible refine lst (by with_unfolding_all rfl) (wp_falloc hF1 (cs := (zeros.map bv)) (z := .agg (List.toArray ((zeros.map bv)))) rfl (by kernel_rfl) (by with_unfolding_all rfl) ?_)); intro w2 g2 hF2 hz2) | (with_reducible refine lst (by with_unfolding_all rfl) (wp_fldA0 hF2 Tryd.underlying26 rfl (by with_unfolding_all exact ⟨_, rfl, rfl⟩) (ds := (zeros.map bv)) (by rw [hz0.out]; kernel_rfl) (take_all _) ?_)) | ((with_reducible refine lst (by with_unfolding_all rfl) (wp_fstA1 hF2 (by with_unfolding_all exact ⟨_, _, rfl, rfl, rfl⟩) (by rw [hz0.out]; kernel_rfl) (bv_one _) (by rw [hz0.out]; omega) (spl_all rfl) ?_)); intro w3 hF3 hz3))
      exact bodyPost_ret (results_cellF2 rfl _ hF3 (i := 1) rfl rfl Tryd.underlying26 rfl (by rw [hz0.out]; kernel_rfl)) rfl ⟨rfl, hF3.below⟩
  · rw [dgP_no1 (by rw [hlb]; exact h71)]
    have hE : ((s.size : Int) != 71) = true := by rw [bne_iff_ne]; omega
    clear hlb
    replace h71 := box h71
    go_enter Tryd.func28, Tryd.ntmps28
    go_wp2_with (first | ((with_reducible refine lst (by with_unfolding_all rfl) (wp_falloc hF0 (cs := (zeros.map bv)) (z := .agg (List.toArray ((zeros.map bv)))) rfl (by kernel_rfl) (by with_unfolding_all rfl) ?_)); intro w1 g1 hF1 hz1) | ((with_reducible refine lst (by with_unfolding_all rfl) (wp_falloc hF1 (cs := (zeros.map bv)) (z := .agg (List.toArray ((zeros.map bv)))) rfl (by kernel_rfl) (by with_unfolding_all rfl) ?_)); intro w2 g2 hF2 hz2) | (with_reducible refine lst (by with_unfolding_all rfl) (wp_fldA0 hF2 Tryd.underlying26 rfl (by with_unfolding_all exact ⟨_, rfl, rfl⟩) (ds := (zeros.map bv)) (by rw [hz0.out]; kernel_rfl) (take_all _) ?_)) | ((with_reducible refine lst (by with_unfolding_all rfl) (wp_fstA1 hF2 (by with_unfolding_all exact ⟨_, _, rfl, rfl, rfl⟩) (by rw [hz0.out]; kernel_rfl) (bv_one _) (by rw [hz0.out]; omega) (spl_all rfl) ?_)); intro w3 hF3 hz3))
    exact bodyPost_ret (results_cellF2 rfl _ hF3 (i := 1) rfl rfl Tryd.underlying26 rfl (by rw [hz0.out]; kernel_rfl)) rfl ⟨rfl, hF3.below⟩
end Go.Proofs.YtgcoebndhnijgaaDoor

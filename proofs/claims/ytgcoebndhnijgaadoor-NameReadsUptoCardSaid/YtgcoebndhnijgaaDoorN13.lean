/-
  Layer 7: the walk of the document's Parse.
-/
import Derived.Test.YtgcoebndhnijgaaDoorN2
import Derived.Test.YtgcoebndhnijgaaDoorN5
import Derived.Test.YtgcoebndhnijgaaDoorN7
import Derived.Test.YtgcoebndhnijgaaDoorN9
import Derived.Test.YtgcoebndhnijgaaDoorNRef
namespace Go.Proofs.YtgcoebndhnijgaaDoor
open Go.RowKit

set_option maxRecDepth 20000 in
set_option maxHeartbeats 6400000 in
theorem parseF_any (s : ByteArray) (w : World) (hs : s.size ≤ 4000000000) :
    Calls Tryd.prog 18 #[.string s] w fun e w' => e = .returned (.tuple #[.agg (parseR s.data.toList).2.cells.toArray, .int .i64 (parseR s.data.toList).1]) ∧ Below w.heap.size w w' := by
  have hF0 := Fr.nil w
  have hz0 := box zeros_len
  have hb (l : List UInt8) : (bs l).data.toList = l := str_mk l
  have hbz (l : List UInt8) : (bs l).size = l.length := str_mk_size l
  have hat : findN 64 s.data.toList ≤ s.size := findN_le 64 _
  have hk : findN 58 (cutA 64 s.data.toList) ≤ (bs (cutA 64 s.data.toList)).size := by rw [hbz]; exact findN_le 58 _
  have hb1 : (bs (cutA 64 s.data.toList)).size ≤ 4000000000 := by have := cutA_len 64 s.data.toList; rw [str_len] at this; rw [hbz]; omega
  have hf1 := box (fun w => find_any s 64 64 rfl w (by omega))
  have hf2 := box (fun w => find_any (bs (cutA 64 s.data.toList)) 58 58 rfl w (by omega))
  have hrepo := box (fun w => repoF_any (bs (pRepo s.data.toList)) w (by have := cutA_len 58 (cutA 64 s.data.toList); rw [hbz]; rw [hbz] at hb1; unfold pRepo; omega))
  have htag := box (fun w => tagF_any (bs (pTag s.data.toList)) w (by have := cutZ_len 58 (cutA 64 s.data.toList); rw [hbz]; rw [hbz] at hb1; unfold pTag; omega))
  have hdg := box (fun w => dgParseF_any (bs (pSum s.data.toList)) w (by have := cutZ_len 64 s.data.toList; rw [str_len] at this; rw [hbz]; unfold pSum; omega))
  have e1 : s.extract 0 (findN 64 s.data.toList) = bs (cutA 64 s.data.toList) := str_ext (by rw [ext_take, hb]; rfl)
  have e2 : (bs (cutA 64 s.data.toList)).extract 0 (findN 58 (cutA 64 s.data.toList)) = bs (pRepo s.data.toList) := str_ext (by rw [ext_take, hb, hb]; rfl)
  have e3 : (bs (cutA 64 s.data.toList)).extract (findN 58 (cutA 64 s.data.toList) + 1) (bs (cutA 64 s.data.toList)).size = bs (pTag s.data.toList) := str_ext (by rw [ext_list, hb, hb]; rfl)
  have e4 : s.extract (findN 64 s.data.toList + 1) s.size = bs (pSum s.data.toList) := str_ext (by rw [ext_list, hb]; rfl)
  have htg : pTagged s.data.toList = decide (findN 58 (cutA 64 s.data.toList) < (bs (cutA 64 s.data.toList)).size) := by rw [hbz]; rfl
  have hpn : pPin s.data.toList = decide (findN 64 s.data.toList < s.size) := rfl
  rw [hb] at hf2 hrepo htag hdg
  have hx1 := @parse_no1 s.data.toList
  have hx2 := @parse_no2 s.data.toList
  have hx3 := @parse_no3 s.data.toList
  have hx4 := fun d => @parse_pin s.data.toList d
  have hx5 := @parse_free s.data.toList
  have hd32 := fun d => @dgP_len (pSum s.data.toList) d
  -- a reference without a tag has an empty one
  have hno : ¬ findN 58 (cutA 64 s.data.toList) < (bs (cutA 64 s.data.toList)).size → bs (pTag s.data.toList) = ⟨#[]⟩ := fun h => by
    rw [hbz] at h
    unfold pTag cutZ bs
    rw [List.drop_of_length_le (by omega)]
  generalize parseR s.data.toList = PR at *
  generalize findN 64 s.data.toList = at_ at *
  generalize findN 58 (cutA 64 s.data.toList) = k at *
  generalize bs (cutA 64 s.data.toList) = b1 at *
  generalize bs (pSum s.data.toList) = b2 at *
  generalize bs (pRepo s.data.toList) = b3 at *
  generalize bs (pTag s.data.toList) = b4 at *
  generalize repoB (pRepo s.data.toList) = okr at *
  generalize tagB (pTag s.data.toList) = okt at *
  generalize pTagged s.data.toList = tg at *
  generalize pPin s.data.toList = pn at *
  generalize dgP (pSum s.data.toList) = dg at *
  clear hb hbz
  cases okr with
  | false =>
    rw [hx1 rfl]
    clear hx1 hx2 hx3 hx4 hx5 hd32 hno htg hpn
    go_enter Tryd.func18, Tryd.ntmps18
    go_wp2_with (((with_reducible refine lst (by with_unfolding_all rfl) (wp_falloc hF0 (cs := rf0) (z := .agg (List.toArray (rf0))) rfl (by kernel_rfl) (by with_unfolding_all rfl) ?_)); intro w1 g1 hF1 hz1))
    refine (hf1.out _).mono ?_
    rintro e w' ⟨rfl, rfl⟩
    go_wp2_with fail
    refine (hf2.out _).mono ?_
    rintro e w' ⟨rfl, rfl⟩
    go_wp2_with (first | (with_reducible refine lst (by with_unfolding_all rfl) (wp_fbuild Tryd.underlying33 (z := .agg (List.toArray rf0)) (by kernel_rfl) (pl := rfP) (by kernel_rfl) (cs := (rfL (.string b3) (.string ⟨#[]⟩) (.bool false) (zeros.map bv))) rfl (vs := [(0, .string b3)]) (by with_unfolding_all rfl) (by with_unfolding_all exact rf0_fill1 rfl) ?_)) | ((with_reducible refine lst (by with_unfolding_all rfl) (wp_falloc hF1 (cs := rf0) (z := .agg (List.toArray (rf0))) rfl (by kernel_rfl) (by with_unfolding_all rfl) ?_)); intro w2 g2 hF2 hz2) | ((with_reducible refine lst (by with_unfolding_all rfl) (wp_fstA0 hF2 (by with_unfolding_all exact ⟨_, _, rfl, rfl, rfl⟩) (by rw [rf_len hz0.out]; kernel_rfl) (rfL_one (bv_one _) rfl rfl rfl) (by rw [rf_len hz0.out, rf0_len]; omega) (spl_all (by rw [rf_len hz0.out, rf0_len])) ?_)); intro w3 hF3 hz3) | (with_reducible refine lst (by with_unfolding_all rfl) (wp_fld0 hF3 Tryd.underlying9 rfl (by with_unfolding_all exact ⟨_, rfl, rfl⟩) rfl ?_)))
    refine (hrepo.out _).mono ?_
    rintro e w' ⟨rfl, rfl⟩
    clear hF0 hF1 hF2
    go_wp2_with (first | (with_reducible refine lst (by with_unfolding_all rfl) (wp_fbuild Tryd.underlying33 (z := .agg (List.toArray rf0)) (by kernel_rfl) (pl := rfP) (by kernel_rfl) (cs := rf0) rfl (vs := []) (by with_unfolding_all rfl) (by with_unfolding_all exact rf0_fill) ?_)) | ((with_reducible refine lst (by with_unfolding_all rfl) (wp_fstA1 hF3 (by with_unfolding_all exact ⟨_, _, rfl, rfl, rfl⟩) (by rw [rf0_len]; kernel_rfl) rf0_one (by rw [rf0_len]; omega) (spl_all rfl) ?_)); intro w4 hF4 hz4))
    exact bodyPost_ret (results_cellF2 rfl _ hF4 (i := 1) rfl rfl Tryd.underlying33 rfl (by rw [rf0_len]; kernel_rfl)) rfl ⟨rfl, hF4.below⟩
  | true =>
    cases hto : (tg && !okt) with
    | true =>
      obtain ⟨rfl, rfl⟩ := and_not hto
      rw [hx2 rfl rfl rfl]
      have hlt : k < b1.size := by simpa using htg.symm
      clear hx1 hx2 hx3 hx4 hx5 hd32 hto hno htg hpn
      go_enter Tryd.func18, Tryd.ntmps18
      go_wp2_with (((with_reducible refine lst (by with_unfolding_all rfl) (wp_falloc hF0 (cs := rf0) (z := .agg (List.toArray (rf0))) rfl (by kernel_rfl) (by with_unfolding_all rfl) ?_)); intro w1 g1 hF1 hz1))
      refine (hf1.out _).mono ?_
      rintro e w' ⟨rfl, rfl⟩
      go_wp2_with fail
      refine (hf2.out _).mono ?_
      rintro e w' ⟨rfl, rfl⟩
      go_wp2_with (first | (with_reducible refine lst (by with_unfolding_all rfl) (wp_fbuild Tryd.underlying33 (z := .agg (List.toArray rf0)) (by kernel_rfl) (pl := rfP) (by kernel_rfl) (cs := (rfL (.string b3) (.string ⟨#[]⟩) (.bool false) (zeros.map bv))) rfl (vs := [(0, .string b3)]) (by with_unfolding_all rfl) (by with_unfolding_all exact rf0_fill1 rfl) ?_)) | ((with_reducible refine lst (by with_unfolding_all rfl) (wp_falloc hF1 (cs := rf0) (z := .agg (List.toArray (rf0))) rfl (by kernel_rfl) (by with_unfolding_all rfl) ?_)); intro w2 g2 hF2 hz2) | ((with_reducible refine lst (by with_unfolding_all rfl) (wp_fstA0 hF2 (by with_unfolding_all exact ⟨_, _, rfl, rfl, rfl⟩) (by rw [rf_len hz0.out]; kernel_rfl) (rfL_one (bv_one _) rfl rfl rfl) (by rw [rf_len hz0.out, rf0_len]; omega) (spl_all (by rw [rf_len hz0.out, rf0_len])) ?_)); intro w3 hF3 hz3) | (with_reducible refine lst (by with_unfolding_all rfl) (wp_fld0 hF3 Tryd.underlying9 rfl (by with_unfolding_all exact ⟨_, rfl, rfl⟩) rfl ?_)))
      refine (hrepo.out _).mono ?_
      rintro e w' ⟨rfl, rfl⟩
      clear hF0 hF1 hF2
      go_wp2_with (first | ((with_reducible refine lst (by with_unfolding_all rfl) (wp_fst0 hF3 (by with_unfolding_all exact ⟨_, _, rfl, rfl, rfl⟩) (by kernel_rfl) rfl rfl (by rw [rf_len hz0.out]; omega) rfL_1 ?_)); intro w4 hF4 hz4) | (with_reducible refine lst (by with_unfolding_all rfl) (wp_fld0 hF4 Tryd.underlying9 rfl (by with_unfolding_all exact ⟨_, rfl, rfl⟩) rfl ?_)))
      refine (htag.out _).mono ?_
      rintro e w' ⟨rfl, rfl⟩
      clear hF3
      go_wp2_with (first | (with_reducible refine lst (by with_unfolding_all rfl) (wp_fbuild Tryd.underlying33 (z := .agg (List.toArray rf0)) (by kernel_rfl) (pl := rfP) (by kernel_rfl) (cs := rf0) rfl (vs := []) (by with_unfolding_all rfl) (by with_unfolding_all exact rf0_fill) ?_)) | ((with_reducible refine lst (by with_unfolding_all rfl) (wp_fstA1 hF4 (by with_unfolding_all exact ⟨_, _, rfl, rfl, rfl⟩) (by rw [rf0_len]; kernel_rfl) rf0_one (by rw [rf0_len]; omega) (spl_all rfl) ?_)); intro w5 hF5 hz5))
      exact bodyPost_ret (results_cellF2 rfl _ hF5 (i := 1) rfl rfl Tryd.underlying33 rfl (by rw [rf0_len]; kernel_rfl)) rfl ⟨rfl, hF5.below⟩
    | false =>
      have hx3 := box (hx3 rfl hto)
      have hx4 := box (fun d => hx4 d rfl hto)
      have hx5 := box (hx5 rfl hto)
      clear hx1 hx2
      cases pn with
      | false =>
        have hge : ¬ at_ < s.size := by simpa using hpn.symm
        rw [hx5.out rfl]
        clear hx3 hx4 hx5 hd32 hpn
        cases tg with
        | true =>
          obtain rfl := not_of hto
          have hlt : k < b1.size := by simpa using htg.symm
          clear hto htg hno
          go_enter Tryd.func18, Tryd.ntmps18
          go_wp2_with (((with_reducible refine lst (by with_unfolding_all rfl) (wp_falloc hF0 (cs := rf0) (z := .agg (List.toArray (rf0))) rfl (by kernel_rfl) (by with_unfolding_all rfl) ?_)); intro w1 g1 hF1 hz1))
          refine (hf1.out _).mono ?_
          rintro e w' ⟨rfl, rfl⟩
          go_wp2_with fail
          refine (hf2.out _).mono ?_
          rintro e w' ⟨rfl, rfl⟩
          go_wp2_with (first | (with_reducible refine lst (by with_unfolding_all rfl) (wp_fbuild Tryd.underlying33 (z := .agg (List.toArray rf0)) (by kernel_rfl) (pl := rfP) (by kernel_rfl) (cs := (rfL (.string b3) (.string ⟨#[]⟩) (.bool false) (zeros.map bv))) rfl (vs := [(0, .string b3)]) (by with_unfolding_all rfl) (by with_unfolding_all exact rf0_fill1 rfl) ?_)) | ((with_reducible refine lst (by with_unfolding_all rfl) (wp_falloc hF1 (cs := rf0) (z := .agg (List.toArray (rf0))) rfl (by kernel_rfl) (by with_unfolding_all rfl) ?_)); intro w2 g2 hF2 hz2) | ((with_reducible refine lst (by with_unfolding_all rfl) (wp_fstA0 hF2 (by with_unfolding_all exact ⟨_, _, rfl, rfl, rfl⟩) (by rw [rf_len hz0.out]; kernel_rfl) (rfL_one (bv_one _) rfl rfl rfl) (by rw [rf_len hz0.out, rf0_len]; omega) (spl_all (by rw [rf_len hz0.out, rf0_len])) ?_)); intro w3 hF3 hz3) | (with_reducible refine lst (by with_unfolding_all rfl) (wp_fld0 hF3 Tryd.underlying9 rfl (by with_unfolding_all exact ⟨_, rfl, rfl⟩) rfl ?_)))
          refine (hrepo.out _).mono ?_
          rintro e w' ⟨rfl, rfl⟩
          clear hF0 hF1 hF2
          go_wp2_with (first | ((with_reducible refine lst (by with_unfolding_all rfl) (wp_fst0 hF3 (by with_unfolding_all exact ⟨_, _, rfl, rfl, rfl⟩) (by kernel_rfl) rfl rfl (by rw [rf_len hz0.out]; omega) rfL_1 ?_)); intro w4 hF4 hz4) | (with_reducible refine lst (by with_unfolding_all rfl) (wp_fld0 hF4 Tryd.underlying9 rfl (by with_unfolding_all exact ⟨_, rfl, rfl⟩) rfl ?_)))
          refine (htag.out _).mono ?_
          rintro e w' ⟨rfl, rfl⟩
          clear hF3
          go_wp2_with (first | (with_reducible refine lst (by with_unfolding_all rfl) (wp_fldA0 hF4 Tryd.underlying33 rfl (by with_unfolding_all exact ⟨_, rfl, rfl⟩) (ds := (rfL (.string b3) (.string b4) (.bool false) (zeros.map bv))) (by rw [rf_len hz0.out]; kernel_rfl) (take_all _) ?_)) | ((with_reducible refine lst (by with_unfolding_all rfl) (wp_fstA1 hF4 (by with_unfolding_all exact ⟨_, _, rfl, rfl, rfl⟩) (by rw [rf_len hz0.out]; kernel_rfl) (rfL_one (bv_one _) rfl rfl rfl) (by rw [rf_len hz0.out, rf0_len]; omega) (spl_all (by rw [rf_len hz0.out, rf0_len])) ?_)); intro w9 hF9 hz9))
          exact bodyPost_ret (results_cellF2 rfl _ hF9 (i := 1) rfl rfl Tryd.underlying33 rfl (by rw [rf_len hz0.out]; kernel_rfl)) rfl ⟨rfl, hF9.below⟩
        | false =>
          have hlt : ¬ k < b1.size := by simpa using htg.symm
          have hb4 := hno hlt
          subst hb4
          clear hto htg hno e3
          go_enter Tryd.func18, Tryd.ntmps18
          go_wp2_with (((with_reducible refine lst (by with_unfolding_all rfl) (wp_falloc hF0 (cs := rf0) (z := .agg (List.toArray (rf0))) rfl (by kernel_rfl) (by with_unfolding_all rfl) ?_)); intro w1 g1 hF1 hz1))
          refine (hf1.out _).mono ?_
          rintro e w' ⟨rfl, rfl⟩
          go_wp2_with fail
          refine (hf2.out _).mono ?_
          rintro e w' ⟨rfl, rfl⟩
          go_wp2_with (first | (with_reducible refine lst (by with_unfolding_all rfl) (wp_fbuild Tryd.underlying33 (z := .agg (List.toArray rf0)) (by kernel_rfl) (pl := rfP) (by kernel_rfl) (cs := (rfL (.string b3) (.string ⟨#[]⟩) (.bool false) (zeros.map bv))) rfl (vs := [(0, .string b3)]) (by with_unfolding_all rfl) (by with_unfolding_all exact rf0_fill1 rfl) ?_)) | ((with_reducible refine lst (by with_unfolding_all rfl) (wp_falloc hF1 (cs := rf0) (z := .agg (List.toArray (rf0))) rfl (by kernel_rfl) (by with_unfolding_all rfl) ?_)); intro w2 g2 hF2 hz2) | ((with_reducible refine lst (by with_unfolding_all rfl) (wp_fstA0 hF2 (by with_unfolding_all exact ⟨_, _, rfl, rfl, rfl⟩) (by rw [rf_len hz0.out]; kernel_rfl) (rfL_one (bv_one _) rfl rfl rfl) (by rw [rf_len hz0.out, rf0_len]; omega) (spl_all (by rw [rf_len hz0.out, rf0_len])) ?_)); intro w3 hF3 hz3) | (with_reducible refine lst (by with_unfolding_all rfl) (wp_fld0 hF3 Tryd.underlying9 rfl (by with_unfolding_all exact ⟨_, rfl, rfl⟩) rfl ?_)))
          refine (hrepo.out _).mono ?_
          rintro e w' ⟨rfl, rfl⟩
          clear hF0 hF1 hF2
          go_wp2_with (first | (with_reducible refine lst (by with_unfolding_all rfl) (wp_fldA0 hF3 Tryd.underlying33 rfl (by with_unfolding_all exact ⟨_, rfl, rfl⟩) (ds := (rfL (.string b3) (.string ⟨#[]⟩) (.bool false) (zeros.map bv))) (by rw [rf_len hz0.out]; kernel_rfl) (take_all _) ?_)) | ((with_reducible refine lst (by with_unfolding_all rfl) (wp_fstA1 hF3 (by with_unfolding_all exact ⟨_, _, rfl, rfl, rfl⟩) (by rw [rf_len hz0.out]; kernel_rfl) (rfL_one (bv_one _) rfl rfl rfl) (by rw [rf_len hz0.out, rf0_len]; omega) (spl_all (by rw [rf_len hz0.out, rf0_len])) ?_)); intro w9 hF9 hz9))
          exact bodyPost_ret (results_cellF2 rfl _ hF9 (i := 1) rfl rfl Tryd.underlying33 rfl (by rw [rf_len hz0.out]; kernel_rfl)) rfl ⟨rfl, hF9.below⟩
      | true =>
        have hat2 : at_ < s.size := by simpa using hpn.symm
        clear hpn
        cases dg with
        | none =>
          rw [hx3.out rfl rfl]
          clear hx3 hx4 hx5 hd32
          simp only [Option.isSome_none, Option.getD_none] at hdg
          cases tg with
          | true =>
            obtain rfl := not_of hto
            have hlt : k < b1.size := by simpa using htg.symm
            clear hto htg hno
            go_enter Tryd.func18, Tryd.ntmps18
            go_wp2_with (((with_reducible refine lst (by with_unfolding_all rfl) (wp_falloc hF0 (cs := rf0) (z := .agg (List.toArray (rf0))) rfl (by kernel_rfl) (by with_unfolding_all rfl) ?_)); intro w1 g1 hF1 hz1))
            refine (hf1.out _).mono ?_
            rintro e w' ⟨rfl, rfl⟩
            go_wp2_with fail
            refine (hf2.out _).mono ?_
            rintro e w' ⟨rfl, rfl⟩
            go_wp2_with (first | (with_reducible refine lst (by with_unfolding_all rfl) (wp_fbuild Tryd.underlying33 (z := .agg (List.toArray rf0)) (by kernel_rfl) (pl := rfP) (by kernel_rfl) (cs := (rfL (.string b3) (.string ⟨#[]⟩) (.bool false) (zeros.map bv))) rfl (vs := [(0, .string b3)]) (by with_unfolding_all rfl) (by with_unfolding_all exact rf0_fill1 rfl) ?_)) | ((with_reducible refine lst (by with_unfolding_all rfl) (wp_falloc hF1 (cs := rf0) (z := .agg (List.toArray (rf0))) rfl (by kernel_rfl) (by with_unfolding_all rfl) ?_)); intro w2 g2 hF2 hz2) | ((with_reducible refine lst (by with_unfolding_all rfl) (wp_fstA0 hF2 (by with_unfolding_all exact ⟨_, _, rfl, rfl, rfl⟩) (by rw [rf_len hz0.out]; kernel_rfl) (rfL_one (bv_one _) rfl rfl rfl) (by rw [rf_len hz0.out, rf0_len]; omega) (spl_all (by rw [rf_len hz0.out, rf0_len])) ?_)); intro w3 hF3 hz3) | (with_reducible refine lst (by with_unfolding_all rfl) (wp_fld0 hF3 Tryd.underlying9 rfl (by with_unfolding_all exact ⟨_, rfl, rfl⟩) rfl ?_)))
            refine (hrepo.out _).mono ?_
            rintro e w' ⟨rfl, rfl⟩
            clear hF0 hF1 hF2
            go_wp2_with (first | ((with_reducible refine lst (by with_unfolding_all rfl) (wp_fst0 hF3 (by with_unfolding_all exact ⟨_, _, rfl, rfl, rfl⟩) (by kernel_rfl) rfl rfl (by rw [rf_len hz0.out]; omega) rfL_1 ?_)); intro w4 hF4 hz4) | (with_reducible refine lst (by with_unfolding_all rfl) (wp_fld0 hF4 Tryd.underlying9 rfl (by with_unfolding_all exact ⟨_, rfl, rfl⟩) rfl ?_)))
            refine (htag.out _).mono ?_
            rintro e w' ⟨rfl, rfl⟩
            clear hF3
            go_wp2_with fail
            refine (hdg.out _).mono ?_
            rintro e w6 ⟨rfl, hb6⟩
            have hF6 := hF4.call hb6
            clear hF4 hb6
            go_wp2_with (first | ((with_reducible refine lst (by with_unfolding_all rfl) (wp_falloc hF6 (cs := (zeros.map bv)) (z := .agg (List.toArray ((zeros.map bv)))) rfl (by kernel_rfl) (by with_unfolding_all rfl) ?_)); intro w7 g7 hF7 hz7) | ((with_reducible refine lst (by with_unfolding_all rfl) (wp_fstA0 hF7 (by with_unfolding_all exact ⟨_, _, rfl, rfl, rfl⟩) (by rw [hz0.out]; kernel_rfl) (bv_one _) (by rw [hz0.out]; omega) (spl_all rfl) ?_)); intro w8 hF8 hz8) | (with_reducible refine lst (by with_unfolding_all rfl) (wp_fbuild Tryd.underlying33 (z := .agg (List.toArray rf0)) (by kernel_rfl) (pl := rfP) (by kernel_rfl) (cs := rf0) rfl (vs := []) (by with_unfolding_all rfl) (by with_unfolding_all exact rf0_fill) ?_)) | ((with_reducible refine lst (by with_unfolding_all rfl) (wp_fstA2 hF8 (by with_unfolding_all exact ⟨_, _, rfl, rfl, rfl⟩) (by rw [rf0_len]; kernel_rfl) rf0_one (by rw [rf0_len]; omega) (spl_all rfl) ?_)); intro w9 hF9 hz9))
            exact bodyPost_ret (results_cellF2 rfl _ hF9 (i := 2) rfl rfl Tryd.underlying33 rfl (by rw [rf0_len]; kernel_rfl)) rfl ⟨rfl, hF9.below⟩
          | false =>
            have hlt : ¬ k < b1.size := by simpa using htg.symm
            have hb4 := hno hlt
            subst hb4
            clear hto htg hno e3
            go_enter Tryd.func18, Tryd.ntmps18
            go_wp2_with (((with_reducible refine lst (by with_unfolding_all rfl) (wp_falloc hF0 (cs := rf0) (z := .agg (List.toArray (rf0))) rfl (by kernel_rfl) (by with_unfolding_all rfl) ?_)); intro w1 g1 hF1 hz1))
            refine (hf1.out _).mono ?_
            rintro e w' ⟨rfl, rfl⟩
            go_wp2_with fail
            refine (hf2.out _).mono ?_
            rintro e w' ⟨rfl, rfl⟩
            go_wp2_with (first | (with_reducible refine lst (by with_unfolding_all rfl) (wp_fbuild Tryd.underlying33 (z := .agg (List.toArray rf0)) (by kernel_rfl) (pl := rfP) (by kernel_rfl) (cs := (rfL (.string b3) (.string ⟨#[]⟩) (.bool false) (zeros.map bv))) rfl (vs := [(0, .string b3)]) (by with_unfolding_all rfl) (by with_unfolding_all exact rf0_fill1 rfl) ?_)) | ((with_reducible refine lst (by with_unfolding_all rfl) (wp_falloc hF1 (cs := rf0) (z := .agg (List.toArray (rf0))) rfl (by kernel_rfl) (by with_unfolding_all rfl) ?_)); intro w2 g2 hF2 hz2) | ((with_reducible refine lst (by with_unfolding_all rfl) (wp_fstA0 hF2 (by with_unfolding_all exact ⟨_, _, rfl, rfl, rfl⟩) (by rw [rf_len hz0.out]; kernel_rfl) (rfL_one (bv_one _) rfl rfl rfl) (by rw [rf_len hz0.out, rf0_len]; omega) (spl_all (by rw [rf_len hz0.out, rf0_len])) ?_)); intro w3 hF3 hz3) | (with_reducible refine lst (by with_unfolding_all rfl) (wp_fld0 hF3 Tryd.underlying9 rfl (by with_unfolding_all exact ⟨_, rfl, rfl⟩) rfl ?_)))
            refine (hrepo.out _).mono ?_
            rintro e w' ⟨rfl, rfl⟩
            clear hF0 hF1 hF2
            go_wp2_with fail
            refine (hdg.out _).mono ?_
            rintro e w6 ⟨rfl, hb6⟩
            have hF6 := hF3.call hb6
            clear hF3 hb6
            go_wp2_with (first | ((with_reducible refine lst (by with_unfolding_all rfl) (wp_falloc hF6 (cs := (zeros.map bv)) (z := .agg (List.toArray ((zeros.map bv)))) rfl (by kernel_rfl) (by with_unfolding_all rfl) ?_)); intro w7 g7 hF7 hz7) | ((with_reducible refine lst (by with_unfolding_all rfl) (wp_fstA0 hF7 (by with_unfolding_all exact ⟨_, _, rfl, rfl, rfl⟩) (by rw [hz0.out]; kernel_rfl) (bv_one _) (by rw [hz0.out]; omega) (spl_all rfl) ?_)); intro w8 hF8 hz8) | (with_reducible refine lst (by with_unfolding_all rfl) (wp_fbuild Tryd.underlying33 (z := .agg (List.toArray rf0)) (by kernel_rfl) (pl := rfP) (by kernel_rfl) (cs := rf0) rfl (vs := []) (by with_unfolding_all rfl) (by with_unfolding_all exact rf0_fill) ?_)) | ((with_reducible refine lst (by with_unfolding_all rfl) (wp_fstA2 hF8 (by with_unfolding_all exact ⟨_, _, rfl, rfl, rfl⟩) (by rw [rf0_len]; kernel_rfl) rf0_one (by rw [rf0_len]; omega) (spl_all rfl) ?_)); intro w9 hF9 hz9))
            exact bodyPost_ret (results_cellF2 rfl _ hF9 (i := 2) rfl rfl Tryd.underlying33 rfl (by rw [rf0_len]; kernel_rfl)) rfl ⟨rfl, hF9.below⟩
        | some d =>
          rw [hx4.out d rfl rfl]
          have hd := box (hd32 d rfl)
          clear hx3 hx4 hx5 hd32
          have hdm : Box ((d.map bv).length = 32) := box (by rw [List.length_map]; exact hd.out)
          simp only [Option.isSome_some, Option.getD_some] at hdg
          cases tg with
          | true =>
            obtain rfl := not_of hto
            have hlt : k < b1.size := by simpa using htg.symm
            clear hto htg hno
            go_enter Tryd.func18, Tryd.ntmps18
            go_wp2_with (((with_reducible refine lst (by with_unfolding_all rfl) (wp_falloc hF0 (cs := rf0) (z := .agg (List.toArray (rf0))) rfl (by kernel_rfl) (by with_unfolding_all rfl) ?_)); intro w1 g1 hF1 hz1))
            refine (hf1.out _).mono ?_
            rintro e w' ⟨rfl, rfl⟩
            go_wp2_with fail
            refine (hf2.out _).mono ?_
            rintro e w' ⟨rfl, rfl⟩
            go_wp2_with (first | (with_reducible refine lst (by with_unfolding_all rfl) (wp_fbuild Tryd.underlying33 (z := .agg (List.toArray rf0)) (by kernel_rfl) (pl := rfP) (by kernel_rfl) (cs := (rfL (.string b3) (.string ⟨#[]⟩) (.bool false) (zeros.map bv))) rfl (vs := [(0, .string b3)]) (by with_unfolding_all rfl) (by with_unfolding_all exact rf0_fill1 rfl) ?_)) | ((with_reducible refine lst (by with_unfolding_all rfl) (wp_falloc hF1 (cs := rf0) (z := .agg (List.toArray (rf0))) rfl (by kernel_rfl) (by with_unfolding_all rfl) ?_)); intro w2 g2 hF2 hz2) | ((with_reducible refine lst (by with_unfolding_all rfl) (wp_fstA0 hF2 (by with_unfolding_all exact ⟨_, _, rfl, rfl, rfl⟩) (by rw [rf_len hz0.out]; kernel_rfl) (rfL_one (bv_one _) rfl rfl rfl) (by rw [rf_len hz0.out, rf0_len]; omega) (spl_all (by rw [rf_len hz0.out, rf0_len])) ?_)); intro w3 hF3 hz3) | (with_reducible refine lst (by with_unfolding_all rfl) (wp_fld0 hF3 Tryd.underlying9 rfl (by with_unfolding_all exact ⟨_, rfl, rfl⟩) rfl ?_)))
            refine (hrepo.out _).mono ?_
            rintro e w' ⟨rfl, rfl⟩
            clear hF0 hF1 hF2
            go_wp2_with (first | ((with_reducible refine lst (by with_unfolding_all rfl) (wp_fst0 hF3 (by with_unfolding_all exact ⟨_, _, rfl, rfl, rfl⟩) (by kernel_rfl) rfl rfl (by rw [rf_len hz0.out]; omega) rfL_1 ?_)); intro w4 hF4 hz4) | (with_reducible refine lst (by with_unfolding_all rfl) (wp_fld0 hF4 Tryd.underlying9 rfl (by with_unfolding_all exact ⟨_, rfl, rfl⟩) rfl ?_)))
            refine (htag.out _).mono ?_
            rintro e w' ⟨rfl, rfl⟩
            clear hF3
            go_wp2_with fail
            refine (hdg.out _).mono ?_
            rintro e w6 ⟨rfl, hb6⟩
            have hF6 := hF4.call hb6
            clear hF4 hb6
            go_wp2_with (first | ((with_reducible refine lst (by with_unfolding_all rfl) (wp_falloc hF6 (cs := (zeros.map bv)) (z := .agg (List.toArray ((zeros.map bv)))) rfl (by kernel_rfl) (by with_unfolding_all rfl) ?_)); intro w7 g7 hF7 hz7) | ((with_reducible refine lst (by with_unfolding_all rfl) (wp_fstA0 hF7 (by with_unfolding_all exact ⟨_, _, rfl, rfl, rfl⟩) (by rw [hdm.out]; kernel_rfl) (bv_one _) (by rw [hdm.out, hz0.out]; omega) (spl_all (by rw [hdm.out, hz0.out])) ?_)); intro w8 hF8 hz8) | ((with_reducible refine lst (by with_unfolding_all rfl) (wp_fst1 hF8 (by with_unfolding_all exact ⟨_, _, rfl, rfl, rfl⟩) (by kernel_rfl) rfl rfl (by rw [rf_len hz0.out]; omega) rfL_2 ?_)); intro w9 hF9 hz9) | (with_reducible refine lst (by with_unfolding_all rfl) (wp_fldA0 hF9 Tryd.underlying25 rfl (by with_unfolding_all exact ⟨_, rfl, rfl⟩) (ds := (d.map bv)) (by rw [hdm.out]; kernel_rfl) (take_all _) ?_)) | ((with_reducible refine lst (by with_unfolding_all rfl) (wp_fstA1 hF9 (by with_unfolding_all exact ⟨_, _, rfl, rfl, rfl⟩) (by rw [hdm.out]; kernel_rfl) (bv_one _) (by rw [rf_len hz0.out, hdm.out]; omega) (rfL_3 (by rw [hz0.out, hdm.out])) ?_)); intro w10 hF10 hz10) | (with_reducible refine lst (by with_unfolding_all rfl) (wp_fldA1 hF10 Tryd.underlying33 rfl (by with_unfolding_all exact ⟨_, rfl, rfl⟩) (ds := (rfL (.string b3) (.string b4) (.bool true) (d.map bv))) (by rw [rf_len hdm.out]; kernel_rfl) (take_all _) ?_)) | ((with_reducible refine lst (by with_unfolding_all rfl) (wp_fstA2 hF10 (by with_unfolding_all exact ⟨_, _, rfl, rfl, rfl⟩) (by rw [rf_len hdm.out]; kernel_rfl) (rfL_one (bv_one _) rfl rfl rfl) (by rw [rf_len hdm.out, rf0_len]; omega) (spl_all (by rw [rf_len hdm.out, rf0_len])) ?_)); intro w11 hF11 hz11))
            exact bodyPost_ret (results_cellF2 rfl _ hF11 (i := 2) rfl rfl Tryd.underlying33 rfl (by rw [rf_len hdm.out]; kernel_rfl)) rfl ⟨rfl, hF11.below⟩
          | false =>
            have hlt : ¬ k < b1.size := by simpa using htg.symm
            have hb4 := hno hlt
            subst hb4
            clear hto htg hno e3
            go_enter Tryd.func18, Tryd.ntmps18
            go_wp2_with (((with_reducible refine lst (by with_unfolding_all rfl) (wp_falloc hF0 (cs := rf0) (z := .agg (List.toArray (rf0))) rfl (by kernel_rfl) (by with_unfolding_all rfl) ?_)); intro w1 g1 hF1 hz1))
            refine (hf1.out _).mono ?_
            rintro e w' ⟨rfl, rfl⟩
            go_wp2_with fail
            refine (hf2.out _).mono ?_
            rintro e w' ⟨rfl, rfl⟩
            go_wp2_with (first | (with_reducible refine lst (by with_unfolding_all rfl) (wp_fbuild Tryd.underlying33 (z := .agg (List.toArray rf0)) (by kernel_rfl) (pl := rfP) (by kernel_rfl) (cs := (rfL (.string b3) (.string ⟨#[]⟩) (.bool false) (zeros.map bv))) rfl (vs := [(0, .string b3)]) (by with_unfolding_all rfl) (by with_unfolding_all exact rf0_fill1 rfl) ?_)) | ((with_reducible refine lst (by with_unfolding_all rfl) (wp_falloc hF1 (cs := rf0) (z := .agg (List.toArray (rf0))) rfl (by kernel_rfl) (by with_unfolding_all rfl) ?_)); intro w2 g2 hF2 hz2) | ((with_reducible refine lst (by with_unfolding_all rfl) (wp_fstA0 hF2 (by with_unfolding_all exact ⟨_, _, rfl, rfl, rfl⟩) (by rw [rf_len hz0.out]; kernel_rfl) (rfL_one (bv_one _) rfl rfl rfl) (by rw [rf_len hz0.out, rf0_len]; omega) (spl_all (by rw [rf_len hz0.out, rf0_len])) ?_)); intro w3 hF3 hz3) | (with_reducible refine lst (by with_unfolding_all rfl) (wp_fld0 hF3 Tryd.underlying9 rfl (by with_unfolding_all exact ⟨_, rfl, rfl⟩) rfl ?_)))
            refine (hrepo.out _).mono ?_
            rintro e w' ⟨rfl, rfl⟩
            clear hF0 hF1 hF2
            go_wp2_with fail
            refine (hdg.out _).mono ?_
            rintro e w6 ⟨rfl, hb6⟩
            have hF6 := hF3.call hb6
            clear hF3 hb6
            go_wp2_with (first | ((with_reducible refine lst (by with_unfolding_all rfl) (wp_falloc hF6 (cs := (zeros.map bv)) (z := .agg (List.toArray ((zeros.map bv)))) rfl (by kernel_rfl) (by with_unfolding_all rfl) ?_)); intro w7 g7 hF7 hz7) | ((with_reducible refine lst (by with_unfolding_all rfl) (wp_fstA0 hF7 (by with_unfolding_all exact ⟨_, _, rfl, rfl, rfl⟩) (by rw [hdm.out]; kernel_rfl) (bv_one _) (by rw [hdm.out, hz0.out]; omega) (spl_all (by rw [hdm.out, hz0.out])) ?_)); intro w8 hF8 hz8) | ((with_reducible refine lst (by with_unfolding_all rfl) (wp_fst1 hF8 (by with_unfolding_all exact ⟨_, _, rfl, rfl, rfl⟩) (by kernel_rfl) rfl rfl (by rw [rf_len hz0.out]; omega) rfL_2 ?_)); intro w9 hF9 hz9) | (with_reducible refine lst (by with_unfolding_all rfl) (wp_fldA0 hF9 Tryd.underlying25 rfl (by with_unfolding_all exact ⟨_, rfl, rfl⟩) (ds := (d.map bv)) (by rw [hdm.out]; kernel_rfl) (take_all _) ?_)) | ((with_reducible refine lst (by with_unfolding_all rfl) (wp_fstA1 hF9 (by with_unfolding_all exact ⟨_, _, rfl, rfl, rfl⟩) (by rw [hdm.out]; kernel_rfl) (bv_one _) (by rw [rf_len hz0.out, hdm.out]; omega) (rfL_3 (by rw [hz0.out, hdm.out])) ?_)); intro w10 hF10 hz10) | (with_reducible refine lst (by with_unfolding_all rfl) (wp_fldA1 hF10 Tryd.underlying33 rfl (by with_unfolding_all exact ⟨_, rfl, rfl⟩) (ds := (rfL (.string b3) (.string ⟨#[]⟩) (.bool true) (d.map bv))) (by rw [rf_len hdm.out]; kernel_rfl) (take_all _) ?_)) | ((with_reducible refine lst (by with_unfolding_all rfl) (wp_fstA2 hF10 (by with_unfolding_all exact ⟨_, _, rfl, rfl, rfl⟩) (by rw [rf_len hdm.out]; kernel_rfl) (rfL_one (bv_one _) rfl rfl rfl) (by rw [rf_len hdm.out, rf0_len]; omega) (spl_all (by rw [rf_len hdm.out, rf0_len])) ?_)); intro w11 hF11 hz11))
            exact bodyPost_ret (results_cellF2 rfl _ hF11 (i := 2) rfl rfl Tryd.underlying33 rfl (by rw [rf_len hdm.out]; kernel_rfl)) rfl ⟨rfl, hF11.below⟩
end Go.Proofs.YtgcoebndhnijgaaDoor

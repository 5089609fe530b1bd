/-
  Layer 7: the walk of Parse.
-/
import Derived.Test.YtgcoebndhnijgaaDoorN5
import Derived.Test.YtgcoebndhnijgaaDoorN6
import Derived.Test.YtgcoebndhnijgaaDoorN8
namespace Go.Proofs.YtgcoebndhnijgaaDoor
open Go.RowKit

theorem Fr.maxW {w w' : World} {es : List Ent} (hF : Fr [] w w' es) (h : MaxW w) : MaxW w' := h.on hF.below

set_option maxRecDepth 20000 in
set_option maxHeartbeats 6400000 in
theorem parse_any (s : ByteArray) (w : World) (hM : MaxW w) (hs : s.size ≤ 4000000000) :
    Calls Tryd.prog 17 #[.string s] w fun e w' => e = .returned (.tuple #[.agg (parseR s.data.toList).2.cells.toArray, .int .i64 (parseR s.data.toList).1]) ∧ Below w.heap.size w w' := by
  have hF0 := Fr.nil w
  have hla := cutA_len 64 s.data.toList
  have hlz := cutZ_len 64 s.data.toList
  have hla2 := cutA_len 58 (cutA 64 s.data.toList)
  have hlz2 := cutZ_len 58 (cutA 64 s.data.toList)
  rw [str_len] at hla hlz
  have hcut1 := box (fun w hM => cut_any 64 s w hM (by omega))
  have hcut2 := box (fun w hM => cut_any 58 (bs (cutA 64 s.data.toList)) w hM (by unfold bs; rw [str_mk_size]; omega))
  have hrepo := box (fun w hM => repo_any (bs (pRepo s.data.toList)) w hM (by unfold bs pRepo; rw [str_mk_size]; omega))
  have htag := box (fun w => tag_any (bs (pTag s.data.toList)) w (by unfold bs pTag; rw [str_mk_size]; omega))
  have hdg := box (fun w => dgParse_any (bs (pSum s.data.toList)) w (by unfold bs pSum; rw [str_mk_size]; omega))
  have hb (l : List UInt8) : (bs l).data.toList = l := str_mk l
  rw [hb] at hcut2 hrepo htag hdg
  change Box (∀ (w : World), MaxW w → Calls _ _ _ w fun e w' => e = .returned (.tuple #[.string (bs (cutA 64 s.data.toList)), .string (bs (pSum s.data.toList)), .bool (pPin s.data.toList)]) ∧ Below w.heap.size w w') at hcut1
  change Box (∀ (w : World), MaxW w → Calls _ _ _ w fun e w' => e = .returned (.tuple #[.string (bs (pRepo s.data.toList)), .string (bs (pTag s.data.toList)), .bool (pTagged s.data.toList)]) ∧ Below w.heap.size w w') at hcut2
  have hx1 := @parse_no1 s.data.toList
  have hx2 := @parse_no2 s.data.toList
  have hx3 := @parse_no3 s.data.toList
  have hx4 := fun d => @parse_pin s.data.toList d
  have hx5 := @parse_free s.data.toList
  have hd32 := fun d => @dgP_len (pSum s.data.toList) d
  generalize parseR s.data.toList = PR at *
  generalize bs (cutA 64 s.data.toList) = b1 at *
  generalize bs (pSum s.data.toList) = b2 at *
  generalize bs (pRepo s.data.toList) = b3 at *
  generalize bs (pTag s.data.toList) = b4 at *
  generalize repoB (pRepo s.data.toList) = okr at *
  generalize tagB (pTag s.data.toList) = okt at *
  generalize pTagged s.data.toList = tg at *
  generalize pPin s.data.toList = pn at *
  generalize dgP (pSum s.data.toList) = dg at *
  clear hla hlz hla2 hlz2 hb
  cases okr with
  | false =>
    rw [hx1 rfl]
    clear hx1 hx2 hx3 hx4 hx5 hd32
    go_enter Tryd.func17, Tryd.ntmps17
    go_wp2_with (first | ((with_reducible refine lst (by with_unfolding_all rfl) (wp_falloc hF0 (cs := rf0) (z := .agg (List.toArray (rf0))) rfl (by kernel_rfl) (by with_unfolding_all rfl) ?_)); intro w1 g1 hF1 hz1) | ((with_reducible refine lst (by with_unfolding_all rfl) (wp_falloc hF1 (cs := (rfL (.string ⟨#[]⟩) (.string ⟨#[]⟩) (.bool false) (zeros.map bv))) (z := .agg (List.toArray ((rfL (.string ⟨#[]⟩) (.string ⟨#[]⟩) (.bool false) (zeros.map bv))))) rfl (by kernel_rfl) (by with_unfolding_all rfl) ?_)); intro w2 g2 hF2 hz2))
    refine (hcut1.out _ (hF2.maxW hM)).mono ?_
    rintro e w3 ⟨rfl, hb3⟩
    have hF3 := hF2.call hb3
    go_wp2_with fail
    refine (hcut2.out _ (hF3.maxW hM)).mono ?_
    rintro e w4 ⟨rfl, hb4⟩
    have hF4 := hF3.call hb4
    go_wp2_with fail
    refine (hrepo.out _ (hF4.maxW hM)).mono ?_
    rintro e w5 ⟨rfl, hb5⟩
    have hF5 := hF4.call hb5
    clear hF1 hF2 hF3 hF4 hb3 hb4 hb5
    go_wp2_with (first | (with_reducible refine lst (by with_unfolding_all rfl) (wp_fbuild Tryd.underlying28 (z := .agg (List.toArray rf0)) (by kernel_rfl) (pl := rfP) (by kernel_rfl) (cs := rf0) rfl (vs := []) (by with_unfolding_all rfl) (by with_unfolding_all exact rf0_fill) ?_)) | ((with_reducible refine lst (by with_unfolding_all rfl) (wp_fstA1 hF5 (by with_unfolding_all exact ⟨_, _, rfl, rfl, rfl⟩) (by rw [rf0_len]; kernel_rfl) rf0_one (by rw [rf0_len]; omega) (spl_all rfl) ?_)); intro w6 hF6 hz6))
    exact bodyPost_ret (results_cellF2 rfl _ hF6 (i := 1) rfl rfl Tryd.underlying28 rfl (by rw [rf0_len]; kernel_rfl)) rfl ⟨rfl, hF6.below⟩
  | true =>
    cases hto : (tg && !okt) with
    | true =>
      obtain ⟨rfl, rfl⟩ : tg = true ∧ okt = false := by cases tg <;> cases okt <;> simp_all
      rw [hx2 rfl rfl rfl]
      clear hx1 hx2 hx3 hx4 hx5 hd32 hto
      go_enter Tryd.func17, Tryd.ntmps17
      go_wp2_with (first | ((with_reducible refine lst (by with_unfolding_all rfl) (wp_falloc hF0 (cs := rf0) (z := .agg (List.toArray (rf0))) rfl (by kernel_rfl) (by with_unfolding_all rfl) ?_)); intro w1 g1 hF1 hz1) | ((with_reducible refine lst (by with_unfolding_all rfl) (wp_falloc hF1 (cs := (rfL (.string ⟨#[]⟩) (.string ⟨#[]⟩) (.bool false) (zeros.map bv))) (z := .agg (List.toArray ((rfL (.string ⟨#[]⟩) (.string ⟨#[]⟩) (.bool false) (zeros.map bv))))) rfl (by kernel_rfl) (by with_unfolding_all rfl) ?_)); intro w2 g2 hF2 hz2))
      refine (hcut1.out _ (hF2.maxW hM)).mono ?_
      rintro e w3 ⟨rfl, hb3⟩
      have hF3 := hF2.call hb3
      go_wp2_with fail
      refine (hcut2.out _ (hF3.maxW hM)).mono ?_
      rintro e w4 ⟨rfl, hb4⟩
      have hF4 := hF3.call hb4
      go_wp2_with fail
      refine (hrepo.out _ (hF4.maxW hM)).mono ?_
      rintro e w5 ⟨rfl, hb5⟩
      have hF5 := hF4.call hb5
      clear hF1 hF2 hF3 hF4 hb3 hb4 hb5
      go_wp2_with (first | (go_at_call 13; refine (htag.out _).mono ?_; rintro e w' ⟨rfl, rfl⟩) | (with_reducible refine lst (by with_unfolding_all rfl) (wp_fbuild Tryd.underlying28 (z := .agg (List.toArray rf0)) (by kernel_rfl) (pl := rfP) (by kernel_rfl) (cs := rf0) rfl (vs := []) (by with_unfolding_all rfl) (by with_unfolding_all exact rf0_fill) ?_)) | ((with_reducible refine lst (by with_unfolding_all rfl) (wp_fstA1 hF5 (by with_unfolding_all exact ⟨_, _, rfl, rfl, rfl⟩) (by rw [rf0_len]; kernel_rfl) rf0_one (by rw [rf0_len]; omega) (spl_all rfl) ?_)); intro w6 hF6 hz6))
      exact bodyPost_ret (results_cellF2 rfl _ hF6 (i := 1) rfl rfl Tryd.underlying28 rfl (by rw [rf0_len]; kernel_rfl)) rfl ⟨rfl, hF6.below⟩
    | false =>
      have hx3 := box (hx3 rfl hto)
      have hx4 := box (fun d => hx4 d rfl hto)
      have hx5 := box (hx5 rfl hto)
      clear hx1 hx2
      cases pn with
      | false =>
        rw [hx5.out rfl]
        clear hx3 hx4 hx5 hd32
        have hz0 := box zeros_len
        cases tg with
        | true =>
          obtain rfl : okt = true := by cases okt <;> simp_all
          clear hto
          go_enter Tryd.func17, Tryd.ntmps17
          go_wp2_with (first | ((with_reducible refine lst (by with_unfolding_all rfl) (wp_falloc hF0 (cs := rf0) (z := .agg (List.toArray (rf0))) rfl (by kernel_rfl) (by with_unfolding_all rfl) ?_)); intro w1 g1 hF1 hz1) | ((with_reducible refine lst (by with_unfolding_all rfl) (wp_falloc hF1 (cs := (rfL (.string ⟨#[]⟩) (.string ⟨#[]⟩) (.bool false) (zeros.map bv))) (z := .agg (List.toArray ((rfL (.string ⟨#[]⟩) (.string ⟨#[]⟩) (.bool false) (zeros.map bv))))) rfl (by kernel_rfl) (by with_unfolding_all rfl) ?_)); intro w2 g2 hF2 hz2))
          refine (hcut1.out _ (hF2.maxW hM)).mono ?_
          rintro e w3 ⟨rfl, hb3⟩
          have hF3 := hF2.call hb3
          go_wp2_with fail
          refine (hcut2.out _ (hF3.maxW hM)).mono ?_
          rintro e w4 ⟨rfl, hb4⟩
          have hF4 := hF3.call hb4
          go_wp2_with fail
          refine (hrepo.out _ (hF4.maxW hM)).mono ?_
          rintro e w5 ⟨rfl, hb5⟩
          have hF5 := hF4.call hb5
          clear hF1 hF2 hF3 hF4 hb3 hb4 hb5
          go_wp2_with (first | (go_at_call 13; refine (htag.out _).mono ?_; rintro e w' ⟨rfl, rfl⟩) | ((with_reducible refine lst (by with_unfolding_all rfl) (wp_fst0 hF5 (by with_unfolding_all exact ⟨_, _, rfl, rfl, rfl⟩) (by kernel_rfl) rfl rfl (by rw [rf_len hz0.out]; omega) rfL_0 ?_)); intro w6 hF6 hz6) | ((with_reducible refine lst (by with_unfolding_all rfl) (wp_fst0 hF6 (by with_unfolding_all exact ⟨_, _, rfl, rfl, rfl⟩) (by kernel_rfl) rfl rfl (by rw [rf_len hz0.out]; omega) rfL_1 ?_)); intro w7 hF7 hz7) | (with_reducible refine lst (by with_unfolding_all rfl) (wp_fldA0 hF7 Tryd.underlying28 rfl (by with_unfolding_all exact ⟨_, rfl, rfl⟩) (ds := (rfL (.string b3) (.string b4) (.bool false) (zeros.map bv))) (by rw [rfL_length hz0.out]; kernel_rfl) (take_all _) ?_)) | ((with_reducible refine lst (by with_unfolding_all rfl) (wp_fstA1 hF7 (by with_unfolding_all exact ⟨_, _, rfl, rfl, rfl⟩) (by rw [rfL_length hz0.out]; kernel_rfl) (rfL_one (bv_one _) rfl rfl rfl) (by rw [rfL_length hz0.out, rf0_len]; omega) (spl_all (by rw [rfL_length hz0.out, rf0_len])) ?_)); intro w8 hF8 hz8))
          exact bodyPost_ret (results_cellF2 rfl _ hF8 (i := 1) rfl rfl Tryd.underlying28 rfl (by rw [rfL_length hz0.out]; kernel_rfl)) rfl ⟨rfl, hF8.below⟩
        | false =>
          clear hto
          go_enter Tryd.func17, Tryd.ntmps17
          go_wp2_with (first | ((with_reducible refine lst (by with_unfolding_all rfl) (wp_falloc hF0 (cs := rf0) (z := .agg (List.toArray (rf0))) rfl (by kernel_rfl) (by with_unfolding_all rfl) ?_)); intro w1 g1 hF1 hz1) | ((with_reducible refine lst (by with_unfolding_all rfl) (wp_falloc hF1 (cs := (rfL (.string ⟨#[]⟩) (.string ⟨#[]⟩) (.bool false) (zeros.map bv))) (z := .agg (List.toArray ((rfL (.string ⟨#[]⟩) (.string ⟨#[]⟩) (.bool false) (zeros.map bv))))) rfl (by kernel_rfl) (by with_unfolding_all rfl) ?_)); intro w2 g2 hF2 hz2))
          refine (hcut1.out _ (hF2.maxW hM)).mono ?_
          rintro e w3 ⟨rfl, hb3⟩
          have hF3 := hF2.call hb3
          go_wp2_with fail
          refine (hcut2.out _ (hF3.maxW hM)).mono ?_
          rintro e w4 ⟨rfl, hb4⟩
          have hF4 := hF3.call hb4
          go_wp2_with fail
          refine (hrepo.out _ (hF4.maxW hM)).mono ?_
          rintro e w5 ⟨rfl, hb5⟩
          have hF5 := hF4.call hb5
          clear hF1 hF2 hF3 hF4 hb3 hb4 hb5
          go_wp2_with (first | (go_at_call 13; refine (htag.out _).mono ?_; rintro e w' ⟨rfl, rfl⟩) | ((with_reducible refine lst (by with_unfolding_all rfl) (wp_fst0 hF5 (by with_unfolding_all exact ⟨_, _, rfl, rfl, rfl⟩) (by kernel_rfl) rfl rfl (by rw [rf_len hz0.out]; omega) rfL_0 ?_)); intro w6 hF6 hz6) | ((with_reducible refine lst (by with_unfolding_all rfl) (wp_fst0 hF6 (by with_unfolding_all exact ⟨_, _, rfl, rfl, rfl⟩) (by kernel_rfl) rfl rfl (by rw [rf_len hz0.out]; omega) rfL_1 ?_)); intro w7 hF7 hz7) | (with_reducible refine lst (by with_unfolding_all rfl) (wp_fldA0 hF7 Tryd.underlying28 rfl (by with_unfolding_all exact ⟨_, rfl, rfl⟩) (ds := (rfL (.string b3) (.string b4) (.bool false) (zeros.map bv))) (by rw [rfL_length hz0.out]; kernel_rfl) (take_all _) ?_)) | ((with_reducible refine lst (by with_unfolding_all rfl) (wp_fstA1 hF7 (by with_unfolding_all exact ⟨_, _, rfl, rfl, rfl⟩) (by rw [rfL_length hz0.out]; kernel_rfl) (rfL_one (bv_one _) rfl rfl rfl) (by rw [rfL_length hz0.out, rf0_len]; omega) (spl_all (by rw [rfL_length hz0.out, rf0_len])) ?_)); intro w8 hF8 hz8))
          exact bodyPost_ret (results_cellF2 rfl _ hF8 (i := 1) rfl rfl Tryd.underlying28 rfl (by rw [rfL_length hz0.out]; kernel_rfl)) rfl ⟨rfl, hF8.below⟩
      | true =>
        cases dg with
        | none =>
          rw [hx3.out rfl rfl]
          clear hx3 hx4 hx5 hd32
          have hz0 := box zeros_len
          simp only [Option.isSome_none, Option.getD_none, if_false, Bool.false_eq_true] at hdg
          cases tg with
          | true =>
            obtain rfl : okt = true := by cases okt <;> simp_all
            clear hto
            go_enter Tryd.func17, Tryd.ntmps17
            go_wp2_with (first | ((with_reducible refine lst (by with_unfolding_all rfl) (wp_falloc hF0 (cs := rf0) (z := .agg (List.toArray (rf0))) rfl (by kernel_rfl) (by with_unfolding_all rfl) ?_)); intro w1 g1 hF1 hz1) | ((with_reducible refine lst (by with_unfolding_all rfl) (wp_falloc hF1 (cs := (rfL (.string ⟨#[]⟩) (.string ⟨#[]⟩) (.bool false) (zeros.map bv))) (z := .agg (List.toArray ((rfL (.string ⟨#[]⟩) (.string ⟨#[]⟩) (.bool false) (zeros.map bv))))) rfl (by kernel_rfl) (by with_unfolding_all rfl) ?_)); intro w2 g2 hF2 hz2))
            refine (hcut1.out _ (hF2.maxW hM)).mono ?_
            rintro e w3 ⟨rfl, hb3⟩
            have hF3 := hF2.call hb3
            go_wp2_with fail
            refine (hcut2.out _ (hF3.maxW hM)).mono ?_
            rintro e w4 ⟨rfl, hb4⟩
            have hF4 := hF3.call hb4
            go_wp2_with fail
            refine (hrepo.out _ (hF4.maxW hM)).mono ?_
            rintro e w5 ⟨rfl, hb5⟩
            have hF5 := hF4.call hb5
            clear hF1 hF2 hF3 hF4 hb3 hb4 hb5
            go_wp2_with (go_at_call 13; refine (htag.out _).mono ?_; rintro e w' ⟨rfl, rfl⟩)
            refine (hdg.out _).mono ?_
            rintro e w6 ⟨rfl, hb6⟩
            have hF6 := hF5.call hb6
            clear hF5 hb6
            go_wp2_with (first | ((with_reducible refine lst (by with_unfolding_all rfl) (wp_falloc hF6 (cs := (zeros.map bv)) (z := .agg (List.toArray ((zeros.map bv)))) rfl (by kernel_rfl) (by with_unfolding_all rfl) ?_)); intro w7 g7 hF7 hz7) | ((with_reducible refine lst (by with_unfolding_all rfl) (wp_fstA0 hF7 (by with_unfolding_all exact ⟨_, _, rfl, rfl, rfl⟩) (by rw [hz0.out]; kernel_rfl) (bv_one _) (by rw [hz0.out]; omega) (spl_all rfl) ?_)); intro w8 hF8 hz8) | (with_reducible refine lst (by with_unfolding_all rfl) (wp_fbuild Tryd.underlying28 (z := .agg (List.toArray rf0)) (by kernel_rfl) (pl := rfP) (by kernel_rfl) (cs := rf0) rfl (vs := []) (by with_unfolding_all rfl) (by with_unfolding_all exact rf0_fill) ?_)) | ((with_reducible refine lst (by with_unfolding_all rfl) (wp_fstA2 hF8 (by with_unfolding_all exact ⟨_, _, rfl, rfl, rfl⟩) (by rw [rf0_len]; kernel_rfl) rf0_one (by rw [rf0_len]; omega) (spl_all rfl) ?_)); intro w9 hF9 hz9))
            exact bodyPost_ret (results_cellF2 rfl _ hF9 (i := 2) rfl rfl Tryd.underlying28 rfl (by rw [rf0_len]; kernel_rfl)) rfl ⟨rfl, hF9.below⟩
          | false =>
            clear hto
            go_enter Tryd.func17, Tryd.ntmps17
            go_wp2_with (first | ((with_reducible refine lst (by with_unfolding_all rfl) (wp_falloc hF0 (cs := rf0) (z := .agg (List.toArray (rf0))) rfl (by kernel_rfl) (by with_unfolding_all rfl) ?_)); intro w1 g1 hF1 hz1) | ((with_reducible refine lst (by with_unfolding_all rfl) (wp_falloc hF1 (cs := (rfL (.string ⟨#[]⟩) (.string ⟨#[]⟩) (.bool false) (zeros.map bv))) (z := .agg (List.toArray ((rfL (.string ⟨#[]⟩) (.string ⟨#[]⟩) (.bool false) (zeros.map bv))))) rfl (by kernel_rfl) (by with_unfolding_all rfl) ?_)); intro w2 g2 hF2 hz2))
            refine (hcut1.out _ (hF2.maxW hM)).mono ?_
            rintro e w3 ⟨rfl, hb3⟩
            have hF3 := hF2.call hb3
            go_wp2_with fail
            refine (hcut2.out _ (hF3.maxW hM)).mono ?_
            rintro e w4 ⟨rfl, hb4⟩
            have hF4 := hF3.call hb4
            go_wp2_with fail
            refine (hrepo.out _ (hF4.maxW hM)).mono ?_
            rintro e w5 ⟨rfl, hb5⟩
            have hF5 := hF4.call hb5
            clear hF1 hF2 hF3 hF4 hb3 hb4 hb5
            go_wp2_with (go_at_call 13; refine (htag.out _).mono ?_; rintro e w' ⟨rfl, rfl⟩)
            refine (hdg.out _).mono ?_
            rintro e w6 ⟨rfl, hb6⟩
            have hF6 := hF5.call hb6
            clear hF5 hb6
            go_wp2_with (first | ((with_reducible refine lst (by with_unfolding_all rfl) (wp_falloc hF6 (cs := (zeros.map bv)) (z := .agg (List.toArray ((zeros.map bv)))) rfl (by kernel_rfl) (by with_unfolding_all rfl) ?_)); intro w7 g7 hF7 hz7) | ((with_reducible refine lst (by with_unfolding_all rfl) (wp_fstA0 hF7 (by with_unfolding_all exact ⟨_, _, rfl, rfl, rfl⟩) (by rw [hz0.out]; kernel_rfl) (bv_one _) (by rw [hz0.out]; omega) (spl_all rfl) ?_)); intro w8 hF8 hz8) | (with_reducible refine lst (by with_unfolding_all rfl) (wp_fbuild Tryd.underlying28 (z := .agg (List.toArray rf0)) (by kernel_rfl) (pl := rfP) (by kernel_rfl) (cs := rf0) rfl (vs := []) (by with_unfolding_all rfl) (by with_unfolding_all exact rf0_fill) ?_)) | ((with_reducible refine lst (by with_unfolding_all rfl) (wp_fstA2 hF8 (by with_unfolding_all exact ⟨_, _, rfl, rfl, rfl⟩) (by rw [rf0_len]; kernel_rfl) rf0_one (by rw [rf0_len]; omega) (spl_all rfl) ?_)); intro w9 hF9 hz9))
            exact bodyPost_ret (results_cellF2 rfl _ hF9 (i := 2) rfl rfl Tryd.underlying28 rfl (by rw [rf0_len]; kernel_rfl)) rfl ⟨rfl, hF9.below⟩
        | some d =>
          rw [hx4.out d rfl rfl]
          have hd := box (hd32 d rfl)
          clear hx3 hx4 hx5 hd32
          have hz0 := box zeros_len
          have hdm : Box ((d.map bv).length = 32) := box (by rw [List.length_map]; exact hd.out)
          simp only [Option.isSome_some, Option.getD_some, if_true] at hdg
          cases tg with
          | true =>
            obtain rfl : okt = true := by cases okt <;> simp_all
            clear hto
            go_enter Tryd.func17, Tryd.ntmps17
            go_wp2_with (first | ((with_reducible refine lst (by with_unfolding_all rfl) (wp_falloc hF0 (cs := rf0) (z := .agg (List.toArray (rf0))) rfl (by kernel_rfl) (by with_unfolding_all rfl) ?_)); intro w1 g1 hF1 hz1) | ((with_reducible refine lst (by with_unfolding_all rfl) (wp_falloc hF1 (cs := (rfL (.string ⟨#[]⟩) (.string ⟨#[]⟩) (.bool false) (zeros.map bv))) (z := .agg (List.toArray ((rfL (.string ⟨#[]⟩) (.string ⟨#[]⟩) (.bool false) (zeros.map bv))))) rfl (by kernel_rfl) (by with_unfolding_all rfl) ?_)); intro w2 g2 hF2 hz2))
            refine (hcut1.out _ (hF2.maxW hM)).mono ?_
            rintro e w3 ⟨rfl, hb3⟩
            have hF3 := hF2.call hb3
            go_wp2_with fail
            refine (hcut2.out _ (hF3.maxW hM)).mono ?_
            rintro e w4 ⟨rfl, hb4⟩
            have hF4 := hF3.call hb4
            go_wp2_with fail
            refine (hrepo.out _ (hF4.maxW hM)).mono ?_
            rintro e w5 ⟨rfl, hb5⟩
            have hF5 := hF4.call hb5
            clear hF1 hF2 hF3 hF4 hb3 hb4 hb5
            go_wp2_with (go_at_call 13; refine (htag.out _).mono ?_; rintro e w' ⟨rfl, rfl⟩)
            refine (hdg.out _).mono ?_
            rintro e w6 ⟨rfl, hb6⟩
            have hF6 := hF5.call hb6
            clear hF5 hb6
            go_wp2_with (first | ((with_reducible refine lst (by with_unfolding_all rfl) (wp_falloc hF6 (cs := (zeros.map bv)) (z := .agg (List.toArray ((zeros.map bv)))) rfl (by kernel_rfl) (by with_unfolding_all rfl) ?_)); intro w7 g7 hF7 hz7) | ((with_reducible refine lst (by with_unfolding_all rfl) (wp_fstA0 hF7 (by with_unfolding_all exact ⟨_, _, rfl, rfl, rfl⟩) (by rw [hdm.out]; kernel_rfl) (bv_one _) (by rw [hdm.out, hz0.out]; omega) (spl_all (by rw [hdm.out, hz0.out])) ?_)); intro w8 hF8 hz8))
            clear hF6 hF7
            have hFd := hF8.drew
            refine wp_region_held (S := fun w' => w'.heap[g7]? = some (.cells (List.toArray (d.map bv)) 26 (0, 0))) (by kernel_rfl) ?_
            change wpAnyH _ _ _ _ _ _ _ _ (World.drew _)
            refine wpAnyH_take (i := 0) (by simp only [List.getElem?_toArray, List.getElem?_cons_zero]; rfl) (by kernel_rfl) (by kernel_rfl) (by kernel_rfl) (by exact fun _ _ _ h => h) (yi_fldA (by with_unfolding_all rfl) (fun _ h => h) Tryd.underlying26 rfl (by with_unfolding_all exact ⟨_, rfl, rfl⟩) (ds := (d.map bv)) (by rw [hdm.out]; kernel_rfl) (take_all _)) (hFd.blk (i := 0) rfl) ?_
            (try simp only [Act.put, List.setIfInBounds_toArray, List.set_cons_zero, List.set_cons_succ])
            refine wpAnyH_take (i := 1) (v := ?_) (by simp only [List.getElem?_toArray, List.getElem?_cons_zero, List.getElem?_cons_succ]; rfl) (by kernel_rfl) (by kernel_rfl) (by kernel_rfl) (by exact fun _ _ _ h => h) (Or.inl ⟨by with_unfolding_all rfl, ?_⟩) (hFd.blk (i := 0) rfl) ?_
            rotate_left
            · (intro w hSw; (try dsimp only at hSw); go_simp; try with_reducible rfl)
            (try simp only [Act.put, List.setIfInBounds_toArray, List.set_cons_zero, List.set_cons_succ])
            refine wpAnyH_ready (rs := [2]) (by kernel_rfl) (by simp) ?_
            refine AllReadyH.cons (by simp only [List.getElem?_toArray, List.getElem?_cons_zero, List.getElem?_cons_succ]; rfl) (fun K hK => ?_) ?_
            · refine stp (by with_unfolding_all rfl) (wp_fst hFd (i := 1) rfl (by with_unfolding_all exact ⟨_, _, rfl, rfl, rfl⟩) (by kernel_rfl) rfl rfl (by rw [rf_len hz0.out]; omega) ?_)
              intro w21 hF21 hz21
              (try simp only [List.set_cons_zero, List.set_cons_succ] at hF21)
              rw [rfL_2] at hF21
              refine hK.out _ _ ((hF21.blk (i := 0) rfl)) (fun _ => ?_)
              clear hK K
              (try simp only [Act.put])
              refine wpAnyH_take (i := 3) (v := ?_) (by simp only [List.getElem?_toArray, List.getElem?_cons_zero, List.getElem?_cons_succ]; rfl) (by kernel_rfl) (by kernel_rfl) (by kernel_rfl) (by exact fun _ _ _ h => h) (Or.inl ⟨by with_unfolding_all rfl, ?_⟩) (hF21.blk (i := 0) rfl) ?_
              rotate_left
              · (intro w hSw; (try dsimp only at hSw); go_simp; try with_reducible rfl)
              (try simp only [Act.put, List.setIfInBounds_toArray, List.set_cons_zero, List.set_cons_succ])
              refine wpAnyH_ready (rs := [4]) (by kernel_rfl) (by simp) ?_
              refine AllReadyH.cons (by simp only [List.getElem?_toArray, List.getElem?_cons_zero, List.getElem?_cons_succ]; rfl) (fun K hK => ?_) ?_
              · refine stp (by with_unfolding_all rfl) (wp_fstA hF21 (i := 1) rfl (ds := d.map bv) (by with_unfolding_all exact ⟨_, _, rfl, rfl, rfl⟩) (by rw [hdm.out]; kernel_rfl) (bv_one _) (by rw [rf_len hz0.out, hdm.out]; omega) ?_)
                intro w22 hF22 hz22
                (try simp only [List.set_cons_zero, List.set_cons_succ] at hF22)
                rw [rfL_3 (by rw [hz0.out, hdm.out])] at hF22
                refine hK.out _ _ ((hF22.blk (i := 0) rfl)) (fun _ => ?_)
                clear hK K
                (try simp only [Act.put])
                refine wpAnyH_done (by kernel_rfl) ?_ _
                have hFr := hF22
                clear hF21
                go_wp2_with (first | ((with_reducible refine lst (by with_unfolding_all rfl) (wp_fst1 hFr (by with_unfolding_all exact ⟨_, _, rfl, rfl, rfl⟩) (by kernel_rfl) rfl rfl (by rw [rf_len hdm.out]; omega) rfL_0 ?_)); intro w30 hF30 hz30) | ((with_reducible refine lst (by with_unfolding_all rfl) (wp_fst1 hF30 (by with_unfolding_all exact ⟨_, _, rfl, rfl, rfl⟩) (by kernel_rfl) rfl rfl (by rw [rf_len hdm.out]; omega) rfL_1 ?_)); intro w31 hF31 hz31) | (with_reducible refine lst (by with_unfolding_all rfl) (wp_fldA1 hF31 Tryd.underlying28 rfl (by with_unfolding_all exact ⟨_, rfl, rfl⟩) (ds := (rfL (.string b3) (.string b4) (.bool true) (d.map bv))) (by rw [rfL_length hdm.out]; kernel_rfl) (take_all _) ?_)) | ((with_reducible refine lst (by with_unfolding_all rfl) (wp_fstA2 hF31 (by with_unfolding_all exact ⟨_, _, rfl, rfl, rfl⟩) (by rw [rfL_length hdm.out]; kernel_rfl) (rfL_one (bv_one _) rfl rfl rfl) (by rw [rfL_length hdm.out, rf0_len]; omega) (spl_all (by rw [rfL_length hdm.out, rf0_len])) ?_)); intro w32 hF32 hz32))
                exact bodyPost_ret (results_cellF2 rfl _ hF32 (i := 2) rfl rfl Tryd.underlying28 rfl (by rw [rfL_length hdm.out]; kernel_rfl)) rfl ⟨rfl, hF32.below⟩
              exact AllReadyH.nil
            exact AllReadyH.nil
          | false =>
            clear hto
            go_enter Tryd.func17, Tryd.ntmps17
            go_wp2_with (first | ((with_reducible refine lst (by with_unfolding_all rfl) (wp_falloc hF0 (cs := rf0) (z := .agg (List.toArray (rf0))) rfl (by kernel_rfl) (by with_unfolding_all rfl) ?_)); intro w1 g1 hF1 hz1) | ((with_reducible refine lst (by with_unfolding_all rfl) (wp_falloc hF1 (cs := (rfL (.string ⟨#[]⟩) (.string ⟨#[]⟩) (.bool false) (zeros.map bv))) (z := .agg (List.toArray ((rfL (.string ⟨#[]⟩) (.string ⟨#[]⟩) (.bool false) (zeros.map bv))))) rfl (by kernel_rfl) (by with_unfolding_all rfl) ?_)); intro w2 g2 hF2 hz2))
            refine (hcut1.out _ (hF2.maxW hM)).mono ?_
            rintro e w3 ⟨rfl, hb3⟩
            have hF3 := hF2.call hb3
            go_wp2_with fail
            refine (hcut2.out _ (hF3.maxW hM)).mono ?_
            rintro e w4 ⟨rfl, hb4⟩
            have hF4 := hF3.call hb4
            go_wp2_with fail
            refine (hrepo.out _ (hF4.maxW hM)).mono ?_
            rintro e w5 ⟨rfl, hb5⟩
            have hF5 := hF4.call hb5
            clear hF1 hF2 hF3 hF4 hb3 hb4 hb5
            go_wp2_with (go_at_call 13; refine (htag.out _).mono ?_; rintro e w' ⟨rfl, rfl⟩)
            refine (hdg.out _).mono ?_
            rintro e w6 ⟨rfl, hb6⟩
            have hF6 := hF5.call hb6
            clear hF5 hb6
            go_wp2_with (first | ((with_reducible refine lst (by with_unfolding_all rfl) (wp_falloc hF6 (cs := (zeros.map bv)) (z := .agg (List.toArray ((zeros.map bv)))) rfl (by kernel_rfl) (by with_unfolding_all rfl) ?_)); intro w7 g7 hF7 hz7) | ((with_reducible refine lst (by with_unfolding_all rfl) (wp_fstA0 hF7 (by with_unfolding_all exact ⟨_, _, rfl, rfl, rfl⟩) (by rw [hdm.out]; kernel_rfl) (bv_one _) (by rw [hdm.out, hz0.out]; omega) (spl_all (by rw [hdm.out, hz0.out])) ?_)); intro w8 hF8 hz8))
            clear hF6 hF7
            have hFd := hF8.drew
            refine wp_region_held (S := fun w' => w'.heap[g7]? = some (.cells (List.toArray (d.map bv)) 26 (0, 0))) (by kernel_rfl) ?_
            change wpAnyH _ _ _ _ _ _ _ _ (World.drew _)
            refine wpAnyH_take (i := 0) (by simp only [List.getElem?_toArray, List.getElem?_cons_zero]; rfl) (by kernel_rfl) (by kernel_rfl) (by kernel_rfl) (by exact fun _ _ _ h => h) (yi_fldA (by with_unfolding_all rfl) (fun _ h => h) Tryd.underlying26 rfl (by with_unfolding_all exact ⟨_, rfl, rfl⟩) (ds := (d.map bv)) (by rw [hdm.out]; kernel_rfl) (take_all _)) (hFd.blk (i := 0) rfl) ?_
            (try simp only [Act.put, List.setIfInBounds_toArray, List.set_cons_zero, List.set_cons_succ])
            refine wpAnyH_take (i := 1) (v := ?_) (by simp only [List.getElem?_toArray, List.getElem?_cons_zero, List.getElem?_cons_succ]; rfl) (by kernel_rfl) (by kernel_rfl) (by kernel_rfl) (by exact fun _ _ _ h => h) (Or.inl ⟨by with_unfolding_all rfl, ?_⟩) (hFd.blk (i := 0) rfl) ?_
            rotate_left
            · (intro w hSw; (try dsimp only at hSw); go_simp; try with_reducible rfl)
            (try simp only [Act.put, List.setIfInBounds_toArray, List.set_cons_zero, List.set_cons_succ])
            refine wpAnyH_ready (rs := [2]) (by kernel_rfl) (by simp) ?_
            refine AllReadyH.cons (by simp only [List.getElem?_toArray, List.getElem?_cons_zero, List.getElem?_cons_succ]; rfl) (fun K hK => ?_) ?_
            · refine stp (by with_unfolding_all rfl) (wp_fst hFd (i := 1) rfl (by with_unfolding_all exact ⟨_, _, rfl, rfl, rfl⟩) (by kernel_rfl) rfl rfl (by rw [rf_len hz0.out]; omega) ?_)
              intro w21 hF21 hz21
              (try simp only [List.set_cons_zero, List.set_cons_succ] at hF21)
              rw [rfL_2] at hF21
              refine hK.out _ _ ((hF21.blk (i := 0) rfl)) (fun _ => ?_)
              clear hK K
              (try simp only [Act.put])
              refine wpAnyH_take (i := 3) (v := ?_) (by simp only [List.getElem?_toArray, List.getElem?_cons_zero, List.getElem?_cons_succ]; rfl) (by kernel_rfl) (by kernel_rfl) (by kernel_rfl) (by exact fun _ _ _ h => h) (Or.inl ⟨by with_unfolding_all rfl, ?_⟩) (hF21.blk (i := 0) rfl) ?_
              rotate_left
              · (intro w hSw; (try dsimp only at hSw); go_simp; try with_reducible rfl)
              (try simp only [Act.put, List.setIfInBounds_toArray, List.set_cons_zero, List.set_cons_succ])
              refine wpAnyH_ready (rs := [4]) (by kernel_rfl) (by simp) ?_
              refine AllReadyH.cons (by simp only [List.getElem?_toArray, List.getElem?_cons_zero, List.getElem?_cons_succ]; rfl) (fun K hK => ?_) ?_
              · refine stp (by with_unfolding_all rfl) (wp_fstA hF21 (i := 1) rfl (ds := d.map bv) (by with_unfolding_all exact ⟨_, _, rfl, rfl, rfl⟩) (by rw [hdm.out]; kernel_rfl) (bv_one _) (by rw [rf_len hz0.out, hdm.out]; omega) ?_)
                intro w22 hF22 hz22
                (try simp only [List.set_cons_zero, List.set_cons_succ] at hF22)
                rw [rfL_3 (by rw [hz0.out, hdm.out])] at hF22
                refine hK.out _ _ ((hF22.blk (i := 0) rfl)) (fun _ => ?_)
                clear hK K
                (try simp only [Act.put])
                refine wpAnyH_done (by kernel_rfl) ?_ _
                have hFr := hF22
                clear hF21
                go_wp2_with (first | ((with_reducible refine lst (by with_unfolding_all rfl) (wp_fst1 hFr (by with_unfolding_all exact ⟨_, _, rfl, rfl, rfl⟩) (by kernel_rfl) rfl rfl (by rw [rf_len hdm.out]; omega) rfL_0 ?_)); intro w30 hF30 hz30) | ((with_reducible refine lst (by with_unfolding_all rfl) (wp_fst1 hF30 (by with_unfolding_all exact ⟨_, _, rfl, rfl, rfl⟩) (by kernel_rfl) rfl rfl (by rw [rf_len hdm.out]; omega) rfL_1 ?_)); intro w31 hF31 hz31) | (with_reducible refine lst (by with_unfolding_all rfl) (wp_fldA1 hF31 Tryd.underlying28 rfl (by with_unfolding_all exact ⟨_, rfl, rfl⟩) (ds := (rfL (.string b3) (.string b4) (.bool true) (d.map bv))) (by rw [rfL_length hdm.out]; kernel_rfl) (take_all _) ?_)) | ((with_reducible refine lst (by with_unfolding_all rfl) (wp_fstA2 hF31 (by with_unfolding_all exact ⟨_, _, rfl, rfl, rfl⟩) (by rw [rfL_length hdm.out]; kernel_rfl) (rfL_one (bv_one _) rfl rfl rfl) (by rw [rfL_length hdm.out, rf0_len]; omega) (spl_all (by rw [rfL_length hdm.out, rf0_len])) ?_)); intro w32 hF32 hz32))
                exact bodyPost_ret (results_cellF2 rfl _ hF32 (i := 2) rfl rfl Tryd.underlying28 rfl (by rw [rfL_length hdm.out]; kernel_rfl)) rfl ⟨rfl, hF32.below⟩
              exact AllReadyH.nil
            exact AllReadyH.nil
end Go.Proofs.YtgcoebndhnijgaaDoor

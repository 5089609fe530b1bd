/-
  Layer 19: the walk of the document's DecodeRequest.
-/
import Derived.Test.YtcnjnkkdidpjiaaJ07
import Derived.Test.YtcnjnkkdidpjiaaJ14
import Derived.Test.YtcnjnkkdidpjiaaJ15
namespace Go.Proofs.Ytcnjnkkdidpjiaa
open Go.RowKit

set_option maxRecDepth 20000 in
set_option maxHeartbeats 3200000 in
theorem decReqF_any (A : Option Addr) (n c : Nat) (l : List UInt8) (w : World) (hn : n ≤ 140737488355000) (hnc : n ≤ c) (hr : Rd w (· < w.heap.size) A 1 n (l.map bv)) :
    Calls Try.prog 11 #[.slice A n c] w (ToldReq w 5 (decReq l)) := by
  have hl := hr.bytes_len
  have hF0 := Fr.nil w
  have hz0 := zeros_len
  replace hz0 := box hz0
  cases l with
  | nil =>
    obtain rfl : n = 0 := by simpa using hl.symm
    go_enter Try.func11, Try.ntmps11
    go_wp2_with (first | ((with_reducible refine lst (by with_unfolding_all rfl) (wp_falloc hF0 (cs := rq0) (z := .agg (List.toArray (rq0))) rfl (by kernel_rfl) (by with_unfolding_all rfl) ?_)); intro w1 g1 hF1 hz1) | (with_reducible refine lst (by with_unfolding_all rfl) (wp_fbuild Try.underlying25 (z := .agg (List.toArray rq0)) (by kernel_rfl) (pl := rqP) (by kernel_rfl) (cs := rq0) rfl (vs := []) (by with_unfolding_all rfl) (by with_unfolding_all exact rq0_fill) ?_)) | ((with_reducible refine lst (by with_unfolding_all rfl) (wp_fstA0 hF1 (by with_unfolding_all exact ⟨_, _, rfl, rfl, rfl⟩) (by kernel_rfl) (by decide +kernel) (by simp) (spl_all rfl) ?_)); intro w2 hF2 hz2))
    refine bodyPost_ret (results_cellF2_0 hF2 rfl _ rfl Try.underlying25 rfl (by kernel_rfl)) rfl ?_
    exact ⟨none, 0, rfl, OwnB.nil _ _ _, hF2.below⟩
  | cons x l =>
    have hx0 : Box ((x :: l)[0]? = some x) := box rfl
    have hxb := x.toNat_lt
    have hnl : n = l.length + 1 := by simpa using hl.symm
    have hn1 : 1 ≤ n := by omega
    replace hnl := box hnl
    clear hl
    by_cases hbad : x.toNat < 1 ∨ 20 < x.toNat
    · have hdec : decReq (x :: l) = none := by rw [decReq, if_pos hbad]
      rw [hdec]
      clear hdec
      have b0 : decide ((n : Int) < 1) = false := by simp; omega
      rcases hbad with hb | hb
      · have b1 : decide ((x.toNat : Int) < 1) = true := by simp; omega
        go_enter Try.func11, Try.ntmps11
        go_wp2_with (first | ((with_reducible refine lst (by with_unfolding_all rfl) (wp_falloc hF0 (cs := rq0) (z := .agg (List.toArray (rq0))) rfl (by kernel_rfl) (by with_unfolding_all rfl) ?_)); intro w1 g1 hF1 hz1) | (with_reducible refine lst (by with_unfolding_all rfl) (wp_indexAddr T_u8 (hF1.rdOld hr) (by with_unfolding_all exact ⟨_, _, _, _, rfl, rfl, rfl⟩) (by omega) (by omega) ?_)) | (with_reducible refine lst (by with_unfolding_all rfl) (wp_loadC (hF1.rdOld hr) hx0 Try.underlying5 rfl (by with_unfolding_all exact ⟨_, rfl, rfl⟩) (by first | (simp; done) | (simp; omega) | omega) ?_)) | (with_reducible refine lst (by with_unfolding_all rfl) (wp_fbuild Try.underlying25 (z := .agg (List.toArray rq0)) (by kernel_rfl) (pl := rqP) (by kernel_rfl) (cs := rq0) rfl (vs := []) (by with_unfolding_all rfl) (by with_unfolding_all exact rq0_fill) ?_)) | ((with_reducible refine lst (by with_unfolding_all rfl) (wp_fstA0 hF1 (by with_unfolding_all exact ⟨_, _, rfl, rfl, rfl⟩) (by kernel_rfl) (by decide +kernel) (by simp) (spl_all rfl) ?_)); intro w2 hF2 hz2))
        refine bodyPost_ret (results_cellF2_0 hF2 rfl _ rfl Try.underlying25 rfl (by kernel_rfl)) rfl ?_
        exact ⟨none, 0, rfl, OwnB.nil _ _ _, hF2.below⟩
      · have b1 : decide ((x.toNat : Int) < 1) = false := by simp; omega
        have b2 : decide (20 < (x.toNat : Int)) = true := by simp; omega
        go_enter Try.func11, Try.ntmps11
        go_wp2_with (first | ((with_reducible refine lst (by with_unfolding_all rfl) (wp_falloc hF0 (cs := rq0) (z := .agg (List.toArray (rq0))) rfl (by kernel_rfl) (by with_unfolding_all rfl) ?_)); intro w1 g1 hF1 hz1) | (with_reducible refine lst (by with_unfolding_all rfl) (wp_indexAddr T_u8 (hF1.rdOld hr) (by with_unfolding_all exact ⟨_, _, _, _, rfl, rfl, rfl⟩) (by omega) (by omega) ?_)) | (with_reducible refine lst (by with_unfolding_all rfl) (wp_loadC (hF1.rdOld hr) hx0 Try.underlying5 rfl (by with_unfolding_all exact ⟨_, rfl, rfl⟩) (by first | (simp; done) | (simp; omega) | omega) ?_)) | (with_reducible refine lst (by with_unfolding_all rfl) (wp_fbuild Try.underlying25 (z := .agg (List.toArray rq0)) (by kernel_rfl) (pl := rqP) (by kernel_rfl) (cs := rq0) rfl (vs := []) (by with_unfolding_all rfl) (by with_unfolding_all exact rq0_fill) ?_)) | ((with_reducible refine lst (by with_unfolding_all rfl) (wp_fstA0 hF1 (by with_unfolding_all exact ⟨_, _, rfl, rfl, rfl⟩) (by kernel_rfl) (by decide +kernel) (by simp) (spl_all rfl) ?_)); intro w2 hF2 hz2))
        refine bodyPost_ret (results_cellF2_0 hF2 rfl _ rfl Try.underlying25 rfl (by kernel_rfl)) rfl ?_
        exact ⟨none, 0, rfl, OwnB.nil _ _ _, hF2.below⟩
    · have b0 : decide ((n : Int) < 1) = false := by simp; omega
      have b1 : decide ((x.toNat : Int) < 1) = false := by simp; omega
      have b2 : decide (20 < (x.toNat : Int)) = false := by simp; omega
      have hdec : Box (decReq (x :: l) = if (took l).t4.2 = some [] then some ((took l).req x) else none) := box (by rw [decReq, if_neg hbad])
      clear hbad
      go_enter Try.func11, Try.ntmps11
      go_wp2_with (first | ((with_reducible refine lst (by with_unfolding_all rfl) (wp_falloc hF0 (cs := rq0) (z := .agg (List.toArray (rq0))) rfl (by kernel_rfl) (by with_unfolding_all rfl) ?_)); intro w1 g1 hF1 hz1) | (with_reducible refine lst (by with_unfolding_all rfl) (wp_indexAddr T_u8 (hF1.rdOld hr) (by with_unfolding_all exact ⟨_, _, _, _, rfl, rfl, rfl⟩) (by omega) (by omega) ?_)) | (with_reducible refine lst (by with_unfolding_all rfl) (wp_loadC (hF1.rdOld hr) hx0 Try.underlying5 rfl (by with_unfolding_all exact ⟨_, rfl, rfl⟩) (by first | (simp; done) | (simp; omega) | omega) ?_)) | ((with_reducible refine lst (by with_unfolding_all rfl) (wp_fbox hF1 (cs := [.slice A n c, .int .i64 1]) rfl (by with_unfolding_all rfl) (by with_unfolding_all rfl) ?_)); intro w2 g2 hF2 hz2) | (with_reducible refine lst (by with_unfolding_all rfl) (wp_indexAddr T_u8 (hF2.rdOld hr) (by with_unfolding_all exact ⟨_, _, _, _, rfl, rfl, rfl⟩) (by omega) (by omega) ?_)) | (with_reducible refine lst (by with_unfolding_all rfl) (wp_loadC (hF2.rdOld hr) hx0 Try.underlying5 rfl (by with_unfolding_all exact ⟨_, rfl, rfl⟩) (by first | (simp; done) | (simp; omega) | omega) ?_)) | (with_reducible refine lst (by with_unfolding_all rfl) (wp_fbuild Try.underlying25 (z := .agg (List.toArray rq0)) (by kernel_rfl) (pl := rqP) (by kernel_rfl) (cs := (rqL (.int .i64 (x.toNat : Int)) (.string ByteArray.empty) (.string ByteArray.empty) (zeros.map bv) (.int .i64 0) (.int .i64 0) (.int .i64 0) (.slice none 0 0))) rfl (vs := [(0, .int .i64 (x.toNat : Int))]) (by with_unfolding_all rfl) (by with_unfolding_all exact rq0_fill1 rfl) ?_)) | ((with_reducible refine lst (by with_unfolding_all rfl) (wp_falloc hF2 (cs := rq0) (z := .agg (List.toArray (rq0))) rfl (by kernel_rfl) (by with_unfolding_all rfl) ?_)); intro w3 g3 hF3 hz3) | ((with_reducible refine lst (by with_unfolding_all rfl) (wp_fstA0 hF3 (by with_unfolding_all exact ⟨_, _, rfl, rfl, rfl⟩) (by rw [rqL_length hz0.out]; kernel_rfl) (rqL_one (bv_one _) rfl rfl rfl rfl rfl rfl rfl) (by simp only [rq0, rqL_length hz0.out] <;> omega) (spl_all (by simp only [rq0, rqL_length hz0.out])) ?_)); intro w4 hF4 hz4))
      have hI : InAt A n c (x :: l) (some l) [.slice A n c, .int .i64 1] := ⟨1, rfl, .inr ⟨1, hn1, rfl, box rfl⟩⟩
      clear hF0 hF1 hF2 hF3 b0 b1 b2
      have hg2 : w.heap.size ≤ g2 := by simpa using hF4.fresh 1 _ rfl g2 rfl
      obtain ⟨t1, ht1⟩ : ∃ t, t = rText 128 (some l) := ⟨_, rfl⟩
      obtain ⟨t2, ht2⟩ : ∃ t, t = rText 128 t1.2 := ⟨_, rfl⟩
      obtain ⟨t3, ht3⟩ : ∃ t, t = rSum t2.2 := ⟨_, rfl⟩
      obtain ⟨n1, hn1'⟩ : ∃ t, t = rCount t3.2 := ⟨_, rfl⟩
      obtain ⟨n2, hn2⟩ : ∃ t, t = rCount n1.2 := ⟨_, rfl⟩
      obtain ⟨n3, hn3⟩ : ∃ t, t = rCount n2.2 := ⟨_, rfl⟩
      obtain ⟨t4, ht4⟩ : ∃ t, t = rText 1048576 n3.2 := ⟨_, rfl⟩
      have htk : Box (took l = ⟨t1, t2, t3, n1, n2, n3, t4⟩) := box (by unfold took; simp only []; rw [← ht1, ← ht2, ← ht3, ← hn1', ← hn2, ← hn3, ← ht4])
      have hd3 : (t3.1.map bv).length = 32 := by rw [ht3, List.length_map, rSum_len]
      replace hd3 := box hd3
      replace ht1 := box ht1
      replace ht2 := box ht2
      replace ht3 := box ht3
      replace hn1' := box hn1'
      replace hn2 := box hn2
      replace hn3 := box hn3
      replace ht4 := box ht4
      refine (inText_any g2 A n c (x :: l) (some l) _ 128 w4 hF4.heap1 hI (hF4.rdOld hr) hn hnc (by omega)).mono ?_
      rintro e w5 ⟨v5, cs5, rfl, ho5, hg5, hh5, hI5⟩
      rw [← ht1.out] at ho5 hI5
      obtain ⟨A5, c5, rfl, _, _⟩ := ho5.arg
      have hF5 := hF4.putGot1 hg5 hh5 ho5
      clear hI hF4 hg5 hh5 ho5
      go_wp2_with fail
      refine (inText_any g2 A n c (x :: l) t1.2 _ 128 w5 hF5.heap2 hI5 (hF5.rdOld hr) hn hnc (by omega)).mono ?_
      rintro e w7 ⟨v7, cs7, rfl, ho7, hg7, hh7, hI7⟩
      rw [← ht2.out] at ho7 hI7
      obtain ⟨A7, c7, rfl, _, _⟩ := ho7.arg
      have hF7 := hF5.putGot2 hg7 hh7 ho7
      clear hI5 hF5 hg7 hh7 ho7
      go_wp2_with (first | (with_reducible refine lst (by with_unfolding_all rfl) (wp_b2s T_u8 Try.underlying5 Try.underlying9 hF7.rdOwn1 (by with_unfolding_all exact ⟨_, rfl, rfl⟩) ?_)) | ((with_reducible refine lst (by with_unfolding_all rfl) (wp_fst2 hF7 (by with_unfolding_all exact ⟨_, _, rfl, rfl, rfl⟩) (by kernel_rfl) rfl rfl (by rw [rqL_length hz0.out]; omega) (rqL_1 (v := .string ⟨t1.1.toArray⟩)) ?_)); intro w6 hF6 hz6) | (with_reducible refine lst (by with_unfolding_all rfl) (wp_b2s T_u8 Try.underlying5 Try.underlying9 hF6.rdOwn0 (by with_unfolding_all exact ⟨_, rfl, rfl⟩) ?_)) | ((with_reducible refine lst (by with_unfolding_all rfl) (wp_fst2 hF6 (by with_unfolding_all exact ⟨_, _, rfl, rfl, rfl⟩) (by kernel_rfl) rfl rfl (by rw [rqL_length hz0.out]; omega) (rqL_2 (v := .string ⟨t2.1.toArray⟩)) ?_)); intro w8 hF8 hz8))
      have hFs := hF8.tail.tail
      clear hF7 hF6 hF8
      refine (inDigest_any g2 A n c (x :: l) t2.2 _ w8 hFs.heap1 hI7 ((hr.below hFs.below).mono fun k hk => ⟨Nat.lt_of_lt_of_le hk hFs.size, by have hk : k < w.heap.size := hk; simp; omega⟩) hn).mono ?_
      rintro e w9 ⟨cs9, rfl, hg9, hh9, hI9⟩
      rw [← ht3.out] at hI9 ⊢
      have hF9 := hFs.put1 hg9 hh9
      clear hI7 hFs hg9 hh9
      go_wp2_with (first | ((with_reducible refine lst (by with_unfolding_all rfl) (wp_fstA0 hF9 (by with_unfolding_all exact ⟨_, _, rfl, rfl, rfl⟩) (by rw [hd3.out]; kernel_rfl) (bv_one _) (by rw [rqL_length hz0.out, hd3.out]; omega) (rqL_3 hz0.out hd3.out) ?_)); intro w10 hF10 hz10))
      refine (inCount_any g2 A n c (x :: l) t3.2 _ w10 hF10.heap1 hI9 (hF10.rdOld hr) hn hnc).mono ?_
      rintro e w11 ⟨cs11, rfl, hg11, hh11, hI11⟩
      rw [← hn1'.out] at hI11 ⊢
      have hF11 := hF10.put1 hg11 hh11
      clear hI9 hF9 hF10 hg11 hh11
      go_wp2_with (first | ((with_reducible refine lst (by with_unfolding_all rfl) (wp_fst0 hF11 (by with_unfolding_all exact ⟨_, _, rfl, rfl, rfl⟩) (by kernel_rfl) rfl rfl (by rw [rqL_length hd3.out]; omega) (rqL_35 (v := .int .i64 (n1.1 : Int)) hd3.out) ?_)); intro w12 hF12 hz12))
      refine (inCount_any g2 A n c (x :: l) n1.2 _ w12 hF12.heap1 hI11 (hF12.rdOld hr) hn hnc).mono ?_
      rintro e w13 ⟨cs13, rfl, hg13, hh13, hI13⟩
      rw [← hn2.out] at hI13 ⊢
      have hF13 := hF12.put1 hg13 hh13
      clear hI11 hF11 hF12 hg13 hh13
      go_wp2_with (first | ((with_reducible refine lst (by with_unfolding_all rfl) (wp_fst0 hF13 (by with_unfolding_all exact ⟨_, _, rfl, rfl, rfl⟩) (by kernel_rfl) rfl rfl (by rw [rqL_length hd3.out]; omega) (rqL_36 (v := .int .i64 (n2.1 : Int)) hd3.out) ?_)); intro w14 hF14 hz14))
      refine (inCount_any g2 A n c (x :: l) n2.2 _ w14 hF14.heap1 hI13 (hF14.rdOld hr) hn hnc).mono ?_
      rintro e w15 ⟨cs15, rfl, hg15, hh15, hI15⟩
      rw [← hn3.out] at hI15 ⊢
      have hF15 := hF14.put1 hg15 hh15
      clear hI13 hF13 hF14 hg15 hh15
      go_wp2_with (first | ((with_reducible refine lst (by with_unfolding_all rfl) (wp_fst0 hF15 (by with_unfolding_all exact ⟨_, _, rfl, rfl, rfl⟩) (by kernel_rfl) rfl rfl (by rw [rqL_length hd3.out]; omega) (rqL_37 (v := .int .i64 (n3.1 : Int)) hd3.out) ?_)); intro w16 hF16 hz16))
      refine (inText_any g2 A n c (x :: l) n3.2 _ 1048576 w16 hF16.heap1 hI15 (hF16.rdOld hr) hn hnc (by omega)).mono ?_
      rintro e w17 ⟨v17, cs17, rfl, ho17, hg17, hh17, hI17⟩
      rw [← ht4.out] at ho17 hI17
      obtain ⟨A17, c17, rfl, hc17, hr17⟩ := ho17.arg
      have hF17 := hF16.putGot1 hg17 hh17 ho17
      clear hI15 hF15 hF16 hg17 hh17 ho17
      obtain ⟨q, rfl, hq⟩ := hI17.ex
      rcases hq with ⟨rfl, hs⟩ | ⟨k, hk, rfl, hs⟩
      · have hno : Box (decReq (x :: l) = none) := box (by rw [hdec.out, htk.out, if_neg (by show ¬ t4.2 = some []; rw [hs.out]; simp)])
        have b9 : ((-1 : Int) != (n : Int)) = true := by rw [bne_iff_ne]; omega
        go_wp2_with (first | ((with_reducible refine lst (by with_unfolding_all rfl) (wp_fst1 hF17 (by with_unfolding_all exact ⟨_, _, rfl, rfl, rfl⟩) (by kernel_rfl) rfl rfl (by rw [rqL_length hd3.out]; omega) (rqL_38 (v := .slice A17 t4.1.length c17) hd3.out) ?_)); intro w18 hF18 hz18) | (with_reducible refine lst (by with_unfolding_all rfl) (wp_fld2 hF18 Try.underlying3 rfl (by with_unfolding_all exact ⟨_, rfl, rfl⟩) (by first | with_unfolding_all rfl | assumption) ?_)) | (with_reducible refine lst (by with_unfolding_all rfl) (wp_fbuild Try.underlying25 (z := .agg (List.toArray rq0)) (by kernel_rfl) (pl := rqP) (by kernel_rfl) (cs := rq0) rfl (vs := []) (by with_unfolding_all rfl) (by with_unfolding_all exact rq0_fill) ?_)) | ((with_reducible refine lst (by with_unfolding_all rfl) (wp_fstA3 hF18 (by with_unfolding_all exact ⟨_, _, rfl, rfl, rfl⟩) (by kernel_rfl) (by decide +kernel) (by simp) (spl_all rfl) ?_)); intro w19 hF19 hz19))
        refine bodyPost_ret (results_cellF2_3 hF19 rfl _ rfl Try.underlying25 rfl (by kernel_rfl)) rfl ?_
        rw [hno.out]
        exact ⟨none, 0, rfl, OwnB.nil _ _ _, hF19.below⟩
      · by_cases hkn : k = n
        · have hyes : Box (decReq (x :: l) = some ((took l).req x)) := box (by rw [hdec.out, if_pos (by rw [htk.out]; show t4.2 = some []; rw [hs.out, hkn, List.drop_of_length_le (by rw [List.length_cons, hnl.out]; omega)])])
          have b9 : ((k : Int) != (n : Int)) = false := by simp; omega
          rw [htk.out] at hyes
          replace hkn := box hkn
          go_wp2_with (first | ((with_reducible refine lst (by with_unfolding_all rfl) (wp_fst1 hF17 (by with_unfolding_all exact ⟨_, _, rfl, rfl, rfl⟩) (by kernel_rfl) rfl rfl (by rw [rqL_length hd3.out]; omega) (rqL_38 (v := .slice A17 t4.1.length c17) hd3.out) ?_)); intro w18 hF18 hz18) | (with_reducible refine lst (by with_unfolding_all rfl) (wp_fld2 hF18 Try.underlying3 rfl (by with_unfolding_all exact ⟨_, rfl, rfl⟩) (by first | with_unfolding_all rfl | assumption) ?_)) | (with_reducible refine lst (by with_unfolding_all rfl) (wp_fldA1 hF18 Try.underlying25 rfl (by with_unfolding_all exact ⟨_, rfl, rfl⟩) (ds := (rqL (.int .i64 (x.toNat : Int)) (.string ⟨t1.1.toArray⟩) (.string ⟨t2.1.toArray⟩) (t3.1.map bv) (.int .i64 (n1.1 : Int)) (.int .i64 (n2.1 : Int)) (.int .i64 (n3.1 : Int)) (.slice A17 t4.1.length c17))) (by rw [rqL_length hd3.out]; kernel_rfl) (take_all _) ?_)) | ((with_reducible refine lst (by with_unfolding_all rfl) (wp_fstA3 hF18 (by with_unfolding_all exact ⟨_, _, rfl, rfl, rfl⟩) (by rw [rqL_length hd3.out]; kernel_rfl) (rqL_one (bv_one _) rfl rfl rfl rfl rfl rfl rfl) (by rw [rqL_length hd3.out, rq0, rqL_length hz0.out]; omega) (spl_all (by rw [rqL_length hd3.out, rq0, rqL_length hz0.out])) ?_)); intro w19 hF19 hz19))
          refine bodyPost_ret (results_cellF2_3 hF19 rfl _ rfl Try.underlying25 rfl (by rw [rqL_length hd3.out]; kernel_rfl)) rfl ?_
          rw [hyes.out]
          exact ⟨A17, c17, rfl, hF19.bytes0, hF19.below⟩
        · have hno : Box (decReq (x :: l) = none) := box (by
            rw [hdec.out, htk.out, if_neg]
            show ¬ t4.2 = some []
            rw [hs.out]
            intro h
            injection h with h
            have := congrArg List.length h
            rw [List.length_drop, List.length_cons, ← hnl.out, List.length_nil] at this
            omega)
          have b9 : ((k : Int) != (n : Int)) = true := by simp; omega
          replace hkn := box hkn
          go_wp2_with (first | ((with_reducible refine lst (by with_unfolding_all rfl) (wp_fst1 hF17 (by with_unfolding_all exact ⟨_, _, rfl, rfl, rfl⟩) (by kernel_rfl) rfl rfl (by rw [rqL_length hd3.out]; omega) (rqL_38 (v := .slice A17 t4.1.length c17) hd3.out) ?_)); intro w18 hF18 hz18) | (with_reducible refine lst (by with_unfolding_all rfl) (wp_fld2 hF18 Try.underlying3 rfl (by with_unfolding_all exact ⟨_, rfl, rfl⟩) (by first | with_unfolding_all rfl | assumption) ?_)) | (with_reducible refine lst (by with_unfolding_all rfl) (wp_fbuild Try.underlying25 (z := .agg (List.toArray rq0)) (by kernel_rfl) (pl := rqP) (by kernel_rfl) (cs := rq0) rfl (vs := []) (by with_unfolding_all rfl) (by with_unfolding_all exact rq0_fill) ?_)) | ((with_reducible refine lst (by with_unfolding_all rfl) (wp_fstA3 hF18 (by with_unfolding_all exact ⟨_, _, rfl, rfl, rfl⟩) (by kernel_rfl) (by decide +kernel) (by simp) (spl_all rfl) ?_)); intro w19 hF19 hz19))
          refine bodyPost_ret (results_cellF2_3 hF19 rfl _ rfl Try.underlying25 rfl (by kernel_rfl)) rfl ?_
          rw [hno.out]
          exact ⟨none, 0, rfl, OwnB.nil _ _ _, hF19.below⟩
end Go.Proofs.Ytcnjnkkdidpjiaa

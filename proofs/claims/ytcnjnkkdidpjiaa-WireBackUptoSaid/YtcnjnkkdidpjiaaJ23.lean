/-
  Layer 19: the walk of DecodeRequest.
  Layer 19: the walk of awake.
-/
import Derived.Test.YtcnjnkkdidpjiaaJ07
import Derived.Test.YtcnjnkkdidpjiaaJ11
import Derived.Test.YtcnjnkkdidpjiaaJ12
import Derived.Test.YtcnjnkkdidpjiaaJ22
import Derived.Test.YtcnjnkkdidpjiaaJ21
namespace Go.Proofs.Ytcnjnkkdidpjiaa
open Go.RowKit

theorem str_one (s : ByteArray) : ∀ u ∈ [Value.string s], u.oneCell' = true := by simp [Value.oneCell']

set_option maxRecDepth 20000 in
set_option maxHeartbeats 3200000 in
theorem decReq_any (A : Option Addr) (n c : Nat) (l : List UInt8) (w : World) (hn : n ≤ 140737488355000) (hnc : n ≤ c) (hr : Rd w (· < w.heap.size) A 1 n (l.map bv)) :
    Calls Try.prog 10 #[.slice A n c] w (ToldReq w 5 (decReq l)) := by
  have hl := hr.bytes_len
  have hF0 := Fr.nil w
  have hz0 := zeros_len
  replace hz0 := box hz0
  cases l with
  | nil =>
    obtain rfl : n = 0 := by simpa using hl.symm
    go_enter Try.func10, Try.ntmps10
    go_wp2_with (first | ((with_reducible refine lst (by with_unfolding_all rfl) (wp_falloc hF0 (cs := rq0) (z := .agg (List.toArray (rq0))) rfl (by kernel_rfl) (by with_unfolding_all rfl) ?_)); intro w1 g1 hF1 hz1) | (with_reducible refine lst (by with_unfolding_all rfl) (wp_fbuild Try.underlying31 (z := .agg (List.toArray rq0)) (by kernel_rfl) (pl := rqP) (by kernel_rfl) (cs := rq0) rfl (vs := []) (by with_unfolding_all rfl) (by with_unfolding_all exact rq0_fill) ?_)) | ((with_reducible refine lst (by with_unfolding_all rfl) (wp_fstA0 hF1 (by with_unfolding_all exact ⟨_, _, rfl, rfl, rfl⟩) (by kernel_rfl) (by decide +kernel) (by simp) (spl_all rfl) ?_)); intro w2 hF2 hz2))
    refine bodyPost_ret (results_cellF2_0 hF2 rfl _ rfl Try.underlying31 rfl (by kernel_rfl)) rfl ?_
    exact ⟨none, 0, rfl, OwnB.nil _ _ _, hF2.below⟩
  | cons x l =>
    obtain rfl : n = l.length + 1 := by simpa using hl.symm
    have hx0 : Box ((x :: l)[0]? = some x) := box rfl
    have hxb := x.toNat_lt
    clear hl
    by_cases hbad : x.toNat < 1 ∨ 20 < x.toNat
    · have hdec : decReq (x :: l) = none := by rw [decReq, if_pos hbad]
      rw [hdec]
      clear hdec
      rcases hbad with hb | hb
      · have b1 : decide ((x.toNat : Int) < 1) = true := by simp; omega
        go_enter Try.func10, Try.ntmps10
        go_wp2_with (first | ((with_reducible refine lst (by with_unfolding_all rfl) (wp_falloc hF0 (cs := rq0) (z := .agg (List.toArray (rq0))) rfl (by kernel_rfl) (by with_unfolding_all rfl) ?_)); intro w1 g1 hF1 hz1) | (with_reducible refine lst (by with_unfolding_all rfl) (wp_indexAddr T_u8 (hF1.rdOld hr) (by with_unfolding_all exact ⟨_, _, _, _, rfl, rfl, rfl⟩) (by omega) (by omega) ?_)) | (with_reducible refine lst (by with_unfolding_all rfl) (wp_loadC (hF1.rdOld hr) hx0 Try.underlying5 rfl (by with_unfolding_all exact ⟨_, rfl, rfl⟩) (by first | (simp; done) | (simp; omega) | omega) ?_)) | (with_reducible refine lst (by with_unfolding_all rfl) (wp_fbuild Try.underlying31 (z := .agg (List.toArray rq0)) (by kernel_rfl) (pl := rqP) (by kernel_rfl) (cs := rq0) rfl (vs := []) (by with_unfolding_all rfl) (by with_unfolding_all exact rq0_fill) ?_)) | ((with_reducible refine lst (by with_unfolding_all rfl) (wp_fstA0 hF1 (by with_unfolding_all exact ⟨_, _, rfl, rfl, rfl⟩) (by kernel_rfl) (by decide +kernel) (by simp) (spl_all rfl) ?_)); intro w2 hF2 hz2))
        refine bodyPost_ret (results_cellF2_0 hF2 rfl _ rfl Try.underlying31 rfl (by kernel_rfl)) rfl ?_
        exact ⟨none, 0, rfl, OwnB.nil _ _ _, hF2.below⟩
      · have b1 : decide ((x.toNat : Int) < 1) = false := by simp; omega
        have b2 : decide (21 ≤ (x.toNat : Int)) = true := by simp; omega
        go_enter Try.func10, Try.ntmps10
        go_wp2_with (first | ((with_reducible refine lst (by with_unfolding_all rfl) (wp_falloc hF0 (cs := rq0) (z := .agg (List.toArray (rq0))) rfl (by kernel_rfl) (by with_unfolding_all rfl) ?_)); intro w1 g1 hF1 hz1) | (with_reducible refine lst (by with_unfolding_all rfl) (wp_indexAddr T_u8 (hF1.rdOld hr) (by with_unfolding_all exact ⟨_, _, _, _, rfl, rfl, rfl⟩) (by omega) (by omega) ?_)) | (with_reducible refine lst (by with_unfolding_all rfl) (wp_loadC (hF1.rdOld hr) hx0 Try.underlying5 rfl (by with_unfolding_all exact ⟨_, rfl, rfl⟩) (by first | (simp; done) | (simp; omega) | omega) ?_)) | (with_reducible refine lst (by with_unfolding_all rfl) (wp_fbuild Try.underlying31 (z := .agg (List.toArray rq0)) (by kernel_rfl) (pl := rqP) (by kernel_rfl) (cs := rq0) rfl (vs := []) (by with_unfolding_all rfl) (by with_unfolding_all exact rq0_fill) ?_)) | ((with_reducible refine lst (by with_unfolding_all rfl) (wp_fstA0 hF1 (by with_unfolding_all exact ⟨_, _, rfl, rfl, rfl⟩) (by kernel_rfl) (by decide +kernel) (by simp) (spl_all rfl) ?_)); intro w2 hF2 hz2))
        refine bodyPost_ret (results_cellF2_0 hF2 rfl _ rfl Try.underlying31 rfl (by kernel_rfl)) rfl ?_
        exact ⟨none, 0, rfl, OwnB.nil _ _ _, hF2.below⟩
    · have b1 : decide ((x.toNat : Int) < 1) = false := by simp; omega
      have b2 : decide (21 ≤ (x.toNat : Int)) = false := by simp; omega
      have hdec : Box (decReq (x :: l) = if (took l).t4.2 = some [] then some ((took l).req x) else none) := box (by rw [decReq, if_neg hbad])
      clear hbad
      go_enter Try.func10, Try.ntmps10
      go_wp2_with (first | ((with_reducible refine lst (by with_unfolding_all rfl) (wp_falloc hF0 (cs := rq0) (z := .agg (List.toArray (rq0))) rfl (by kernel_rfl) (by with_unfolding_all rfl) ?_)); intro w1 g1 hF1 hz1) | (with_reducible refine lst (by with_unfolding_all rfl) (wp_indexAddr T_u8 (hF1.rdOld hr) (by with_unfolding_all exact ⟨_, _, _, _, rfl, rfl, rfl⟩) (by omega) (by omega) ?_)) | (with_reducible refine lst (by with_unfolding_all rfl) (wp_loadC (hF1.rdOld hr) hx0 Try.underlying5 rfl (by with_unfolding_all exact ⟨_, rfl, rfl⟩) (by first | (simp; done) | (simp; omega) | omega) ?_)) | ((with_reducible refine lst (by with_unfolding_all rfl) (wp_cutB T_u8 (hr.below hF1.below) hnc (lo := (some (1:Int))) (hi := none) (mx := none) ?_ (l := 1) (h := (l.length + 1)) (m := c) (by first | (simp; done) | (simp; omega)) (by first | (simp; done) | (simp; omega)) (by first | (simp; done) | (simp; omega)) (by simp) (by omega) (by omega) (by omega) (by omega) ?_)); exact ⟨_, _, _, _, .i64, .i64, .i64, rfl, rfl, rfl, rfl, rfl⟩; intro A2 c2 hr2 hc2 hc3) | ((with_reducible refine lst (by with_unfolding_all rfl) (wp_fbox hF1 (cs := [.slice A2 l.length c2, .bool true]) rfl (by with_unfolding_all rfl) (by with_unfolding_all rfl) ?_)); intro w2 g2 hF2 hz2) | (with_reducible refine lst (by with_unfolding_all rfl) (wp_indexAddr T_u8 (hF2.rdOld hr) (by with_unfolding_all exact ⟨_, _, _, _, rfl, rfl, rfl⟩) (by omega) (by omega) ?_)) | (with_reducible refine lst (by with_unfolding_all rfl) (wp_loadC (hF2.rdOld hr) hx0 Try.underlying5 rfl (by with_unfolding_all exact ⟨_, rfl, rfl⟩) (by first | (simp; done) | (simp; omega) | omega) ?_)) | (with_reducible refine lst (by with_unfolding_all rfl) (wp_fbuild Try.underlying31 (z := .agg (List.toArray rq0)) (by kernel_rfl) (pl := rqP) (by kernel_rfl) (cs := (rqL (.int .i64 (x.toNat : Int)) (.string ByteArray.empty) (.string ByteArray.empty) (zeros.map bv) (.int .i64 0) (.int .i64 0) (.int .i64 0) (.slice none 0 0))) rfl (vs := [(0, .int .i64 (x.toNat : Int))]) (by with_unfolding_all rfl) (by with_unfolding_all exact rq0_fill1 rfl) ?_)) | ((with_reducible refine lst (by with_unfolding_all rfl) (wp_falloc hF2 (cs := rq0) (z := .agg (List.toArray (rq0))) rfl (by kernel_rfl) (by with_unfolding_all rfl) ?_)); intro w3 g3 hF3 hz3) | ((with_reducible refine lst (by with_unfolding_all rfl) (wp_fstA0 hF3 (by with_unfolding_all exact ⟨_, _, rfl, rfl, rfl⟩) (by rw [rqL_length hz0.out]; kernel_rfl) (rqL_one (bv_one _) rfl rfl rfl rfl rfl rfl rfl) (by simp only [rq0, rqL_length hz0.out] <;> omega) (spl_all (by simp only [rq0, rqL_length hz0.out])) ?_)); intro w4 hF4 hz4))
      have hR : RdrAt w w.heap.size (l.length + 1) (some l) [.slice A2 l.length c2, .bool true] := by
        rw [List.take_of_length_le (by simp), Nat.add_sub_cancel] at hr2
        exact ⟨A2, l.length, c2, l, true, rfl, hr2.same (fun k hk => (hF1.block k hk (by simp)).symm), hc2, by omega, box rfl⟩
      clear hr2 hF0 hF1 hF2 hF3
      have hg2 : w.heap.size ≤ g2 := by simpa using hF4.fresh 1 _ rfl g2 rfl
      obtain ⟨t1, ht1⟩ : ∃ t, t = rText 128 (some l) := ⟨_, rfl⟩
      obtain ⟨t2, ht2⟩ : ∃ t, t = rText 128 t1.2 := ⟨_, rfl⟩
      obtain ⟨t3, ht3⟩ : ∃ t, t = rSum t2.2 := ⟨_, rfl⟩
      obtain ⟨n1, hn1⟩ : ∃ t, t = rCount t3.2 := ⟨_, rfl⟩
      obtain ⟨n2, hn2⟩ : ∃ t, t = rCount n1.2 := ⟨_, rfl⟩
      obtain ⟨n3, hn3⟩ : ∃ t, t = rCount n2.2 := ⟨_, rfl⟩
      obtain ⟨t4, ht4⟩ : ∃ t, t = rText 1048576 n3.2 := ⟨_, rfl⟩
      have htk : Box (took l = ⟨t1, t2, t3, n1, n2, n3, t4⟩) := box (by unfold took; simp only []; rw [← ht1, ← ht2, ← ht3, ← hn1, ← hn2, ← hn3, ← ht4])
      have hd3 : (t3.1.map bv).length = 32 := by rw [ht3, List.length_map, rSum_len]
      replace hd3 := box hd3
      replace ht1 := box ht1
      replace ht2 := box ht2
      replace ht3 := box ht3
      replace hn1 := box hn1
      replace hn2 := box hn2
      replace hn3 := box hn3
      replace ht4 := box ht4
      refine (rdText_any w.heap.size g2 (l.length + 1) (some l) _ 128 w w4 hF4.below (Nat.le_refl _) hF4.heap1 hR (by omega) (by omega)).mono ?_
      rintro e w5 ⟨v5, cs5, rfl, ho5, hg5, hh5, hR5⟩
      rw [← ht1.out] at ho5 hR5
      obtain ⟨A5, c5, rfl, _, hr5⟩ := ho5.arg
      have hF5 := hF4.put1 hg5 hh5
      clear hR hF4 hg5 hh5 ho5
      go_wp2_with (first | (with_reducible refine lst (by with_unfolding_all rfl) (wp_b2s T_u8 Try.underlying5 Try.underlying9 hr5 (by with_unfolding_all exact ⟨_, rfl, rfl⟩) ?_)) | ((with_reducible refine lst (by with_unfolding_all rfl) (wp_fst0 hF5 (by with_unfolding_all exact ⟨_, _, rfl, rfl, rfl⟩) (by kernel_rfl) rfl rfl (by rw [rqL_length hz0.out]; omega) (rqL_1 (v := .string ⟨t1.1.toArray⟩)) ?_)); intro w6 hF6 hz6))
      refine (rdText_any w.heap.size g2 (l.length + 1) t1.2 _ 128 w w6 hF6.below (Nat.le_refl _) hF6.heap1 hR5 (by omega) (by omega)).mono ?_
      rintro e w7 ⟨v7, cs7, rfl, ho7, hg7, hh7, hR7⟩
      rw [← ht2.out] at ho7 hR7
      obtain ⟨A7, c7, rfl, _, hr7⟩ := ho7.arg
      have hF7 := hF6.put1 hg7 hh7
      clear hR5 hr5 hF5 hF6 hg7 hh7 ho7
      go_wp2_with (first | (with_reducible refine lst (by with_unfolding_all rfl) (wp_b2s T_u8 Try.underlying5 Try.underlying9 hr7 (by with_unfolding_all exact ⟨_, rfl, rfl⟩) ?_)) | ((with_reducible refine lst (by with_unfolding_all rfl) (wp_fst0 hF7 (by with_unfolding_all exact ⟨_, _, rfl, rfl, rfl⟩) (by kernel_rfl) rfl rfl (by rw [rqL_length hz0.out]; omega) (rqL_2 (v := .string ⟨t2.1.toArray⟩)) ?_)); intro w8 hF8 hz8))
      refine (rdSum_any w.heap.size g2 (l.length + 1) t2.2 _ w w8 hF8.below (Nat.le_refl _) hg2 hF8.heap1 hR7).mono ?_
      rintro e w9 ⟨cs9, rfl, hg9, hh9, hR9⟩
      rw [← ht3.out] at hR9 ⊢
      have hF9 := hF8.put1 hg9 hh9
      clear hR7 hr7 hF7 hF8 hg9 hh9
      go_wp2_with (first | ((with_reducible refine lst (by with_unfolding_all rfl) (wp_fstA0 hF9 (by with_unfolding_all exact ⟨_, _, rfl, rfl, rfl⟩) (by rw [hd3.out]; kernel_rfl) (bv_one _) (by rw [rqL_length hz0.out, hd3.out]; omega) (rqL_3 hz0.out hd3.out) ?_)); intro w10 hF10 hz10))
      refine (rdCount_any w.heap.size g2 (l.length + 1) t3.2 _ w w10 hF10.below (Nat.le_refl _) hF10.heap1 hR9 (by omega)).mono ?_
      rintro e w11 ⟨cs11, rfl, hg11, hh11, hR11⟩
      rw [← hn1.out] at hR11 ⊢
      have hF11 := hF10.put1 hg11 hh11
      clear hR9 hF9 hF10 hg11 hh11
      go_wp2_with fail
      refine (rdCount_any w.heap.size g2 (l.length + 1) n1.2 _ w w11 hF11.below (Nat.le_refl _) hF11.heap1 hR11 (by omega)).mono ?_
      rintro e w12 ⟨cs12, rfl, hg12, hh12, hR12⟩
      rw [← hn2.out] at hR12 ⊢
      have hF12 := hF11.put1 hg12 hh12
      clear hR11 hF11 hg12 hh12
      go_wp2_with fail
      refine (rdCount_any w.heap.size g2 (l.length + 1) n2.2 _ w w12 hF12.below (Nat.le_refl _) hF12.heap1 hR12 (by omega)).mono ?_
      rintro e w13 ⟨cs13, rfl, hg13, hh13, hR13⟩
      rw [← hn3.out] at hR13 ⊢
      have hF13 := hF12.put1 hg13 hh13
      clear hR12 hF12 hg13 hh13
      go_wp2_with (first | ((with_reducible refine lst (by with_unfolding_all rfl) (wp_fst0 hF13 (by with_unfolding_all exact ⟨_, _, rfl, rfl, rfl⟩) (by kernel_rfl) rfl rfl (by rw [rqL_length hd3.out]; omega) (rqL_35 (v := .int .i64 (n1.1 : Int)) hd3.out) ?_)); intro w14 hF14 hz14) | ((with_reducible refine lst (by with_unfolding_all rfl) (wp_fst0 hF14 (by with_unfolding_all exact ⟨_, _, rfl, rfl, rfl⟩) (by kernel_rfl) rfl rfl (by rw [rqL_length hd3.out]; omega) (rqL_36 (v := .int .i64 (n2.1 : Int)) hd3.out) ?_)); intro w15 hF15 hz15) | ((with_reducible refine lst (by with_unfolding_all rfl) (wp_fst0 hF15 (by with_unfolding_all exact ⟨_, _, rfl, rfl, rfl⟩) (by kernel_rfl) rfl rfl (by rw [rqL_length hd3.out]; omega) (rqL_37 (v := .int .i64 (n3.1 : Int)) hd3.out) ?_)); intro w16 hF16 hz16))
      refine (rdText_any w.heap.size g2 (l.length + 1) n3.2 _ 1048576 w w16 hF16.below (Nat.le_refl _) hF16.heap1 hR13 (by omega) (by omega)).mono ?_
      rintro e w17 ⟨v17, cs17, rfl, ho17, hg17, hh17, hR17⟩
      rw [← ht4.out] at ho17 hR17
      obtain ⟨A17, c17, rfl, hc17, hr17⟩ := ho17.arg
      have hF17 := hF16.putGot1 hg17 hh17 ho17
      clear hR13 hF13 hF14 hF15 hF16 hg17 hh17 ho17
      obtain ⟨Ar, nr, cr, lr, okr, rfl, hrr, _, hnr, hsr⟩ := hR17.ex
      cases okr with
      | false =>
        have hno : decReq (x :: l) = none := by rw [hdec.out, htk.out, if_neg (by show ¬ t4.2 = some []; rw [hsr.out]; simp)]
        replace hno := box hno
        go_wp2_with (first | ((with_reducible refine lst (by with_unfolding_all rfl) (wp_fst1 hF17 (by with_unfolding_all exact ⟨_, _, rfl, rfl, rfl⟩) (by kernel_rfl) rfl rfl (by rw [rqL_length hd3.out]; omega) (rqL_38 (v := .slice A17 t4.1.length c17) hd3.out) ?_)); intro w18 hF18 hz18) | (with_reducible refine lst (by with_unfolding_all rfl) (wp_fld2 hF18 Try.underlying4 rfl (by with_unfolding_all exact ⟨_, rfl, rfl⟩) (by first | with_unfolding_all rfl | assumption) ?_)) | (with_reducible refine lst (by with_unfolding_all rfl) (wp_fld2 hF18 Try.underlying23 rfl (by with_unfolding_all exact ⟨_, rfl, rfl⟩) (by first | with_unfolding_all rfl | assumption) ?_)) | (with_reducible refine lst (by with_unfolding_all rfl) (wp_fbuild Try.underlying31 (z := .agg (List.toArray rq0)) (by kernel_rfl) (pl := rqP) (by kernel_rfl) (cs := rq0) rfl (vs := []) (by with_unfolding_all rfl) (by with_unfolding_all exact rq0_fill) ?_)) | ((with_reducible refine lst (by with_unfolding_all rfl) (wp_fstA3 hF18 (by with_unfolding_all exact ⟨_, _, rfl, rfl, rfl⟩) (by kernel_rfl) (by decide +kernel) (by simp) (spl_all rfl) ?_)); intro w19 hF19 hz19))
        refine bodyPost_ret (results_cellF2_3 hF19 rfl _ rfl Try.underlying31 rfl (by kernel_rfl)) rfl ?_
        rw [hno.out]
        exact ⟨none, 0, rfl, OwnB.nil _ _ _, hF19.below⟩
      | true =>
        by_cases hnr0 : nr = 0
        · subst hnr0
          obtain rfl : lr = [] := List.eq_nil_of_length_eq_zero hrr.bytes_len
          have hyes : decReq (x :: l) = some ((took l).req x) := by rw [hdec.out, if_pos (by rw [htk.out]; exact hsr.out)]
          rw [htk.out] at hyes
          replace hyes := box hyes
          go_wp2_with (first | ((with_reducible refine lst (by with_unfolding_all rfl) (wp_fst1 hF17 (by with_unfolding_all exact ⟨_, _, rfl, rfl, rfl⟩) (by kernel_rfl) rfl rfl (by rw [rqL_length hd3.out]; omega) (rqL_38 (v := .slice A17 t4.1.length c17) hd3.out) ?_)); intro w18 hF18 hz18) | (with_reducible refine lst (by with_unfolding_all rfl) (wp_fld2 hF18 Try.underlying4 rfl (by with_unfolding_all exact ⟨_, rfl, rfl⟩) (by first | with_unfolding_all rfl | assumption) ?_)) | (with_reducible refine lst (by with_unfolding_all rfl) (wp_fld2 hF18 Try.underlying23 rfl (by with_unfolding_all exact ⟨_, rfl, rfl⟩) (by first | with_unfolding_all rfl | assumption) ?_)) | (with_reducible refine lst (by with_unfolding_all rfl) (wp_fldA1 hF18 Try.underlying31 rfl (by with_unfolding_all exact ⟨_, rfl, rfl⟩) (ds := (rqL (.int .i64 (x.toNat : Int)) (.string ⟨t1.1.toArray⟩) (.string ⟨t2.1.toArray⟩) (t3.1.map bv) (.int .i64 (n1.1 : Int)) (.int .i64 (n2.1 : Int)) (.int .i64 (n3.1 : Int)) (.slice A17 t4.1.length c17))) (by rw [rqL_length hd3.out]; kernel_rfl) (take_all _) ?_)) | ((with_reducible refine lst (by with_unfolding_all rfl) (wp_fstA3 hF18 (by with_unfolding_all exact ⟨_, _, rfl, rfl, rfl⟩) (by rw [rqL_length hd3.out]; kernel_rfl) (rqL_one (bv_one _) rfl rfl rfl rfl rfl rfl rfl) (by rw [rqL_length hd3.out, rq0, rqL_length hz0.out]; omega) (spl_all (by rw [rqL_length hd3.out, rq0, rqL_length hz0.out])) ?_)); intro w19 hF19 hz19))
          refine bodyPost_ret (results_cellF2_3 hF19 rfl _ rfl Try.underlying31 rfl (by rw [rqL_length hd3.out]; kernel_rfl)) rfl ?_
          rw [hyes.out]
          exact ⟨A17, c17, rfl, hF19.bytes0, hF19.below⟩
        · have hno : decReq (x :: l) = none := by
            rw [hdec.out, htk.out, if_neg]
            show ¬ t4.2 = some []
            rw [hsr.out, if_pos rfl]
            intro h
            injection h with h
            subst h
            exact hnr0 (hrr.bytes_len.symm)
          replace hno := box hno
          have b9 : decide (0 < (nr : Int)) = true := by simp; omega
          go_wp2_with (first | ((with_reducible refine lst (by with_unfolding_all rfl) (wp_fst1 hF17 (by with_unfolding_all exact ⟨_, _, rfl, rfl, rfl⟩) (by kernel_rfl) rfl rfl (by rw [rqL_length hd3.out]; omega) (rqL_38 (v := .slice A17 t4.1.length c17) hd3.out) ?_)); intro w18 hF18 hz18) | (with_reducible refine lst (by with_unfolding_all rfl) (wp_fld2 hF18 Try.underlying4 rfl (by with_unfolding_all exact ⟨_, rfl, rfl⟩) (by first | with_unfolding_all rfl | assumption) ?_)) | (with_reducible refine lst (by with_unfolding_all rfl) (wp_fld2 hF18 Try.underlying23 rfl (by with_unfolding_all exact ⟨_, rfl, rfl⟩) (by first | with_unfolding_all rfl | assumption) ?_)) | (with_reducible refine lst (by with_unfolding_all rfl) (wp_fbuild Try.underlying31 (z := .agg (List.toArray rq0)) (by kernel_rfl) (pl := rqP) (by kernel_rfl) (cs := rq0) rfl (vs := []) (by with_unfolding_all rfl) (by with_unfolding_all exact rq0_fill) ?_)) | ((with_reducible refine lst (by with_unfolding_all rfl) (wp_fstA3 hF18 (by with_unfolding_all exact ⟨_, _, rfl, rfl, rfl⟩) (by kernel_rfl) (by decide +kernel) (by simp) (spl_all rfl) ?_)); intro w19 hF19 hz19))
          refine bodyPost_ret (results_cellF2_3 hF19 rfl _ rfl Try.underlying31 rfl (by kernel_rfl)) rfl ?_
          rw [hno.out]
          exact ⟨none, 0, rfl, OwnB.nil _ _ _, hF19.below⟩
end Go.Proofs.Ytcnjnkkdidpjiaa

namespace Go.Proofs.Ytcnjnkkdidpjiaa
open Go.RowKit

def awReq : Req := ⟨18, ByteArray.empty, ByteArray.empty, zeros, 0, 0, 0, []⟩
theorem aw_ok : reqOk awReq = true := by decide +kernel
theorem aw_len : (reqB awReq).length = 39 := by decide +kernel
theorem aw_0 : (reqB awReq)[0]? = some 18 := by decide +kernel
theorem aw_dec : decReq (reqB awReq) = some awReq := dec_enc aw_ok (by decide +kernel)

set_option maxRecDepth 20000 in
set_option maxHeartbeats 1600000 in
theorem awake_any (w : World) : Calls Try.prog 12 #[] w fun e w' => e = .returned (.bool true) ∧ Below w.heap.size w w' := by
  have hF0 := Fr.nil w
  have hz0 := zeros_len
  replace hz0 := box hz0
  have hE := box (fun w => encReq_any awReq none 0 w (by decide +kernel) (Rd.nil _ _ _ _))
  rw [if_pos aw_ok, if_pos aw_ok] at hE
  have hD := box (fun A n c w h1 h2 => decReq_any A n c (reqB awReq) w h1 h2)
  rw [aw_dec] at hD
  have h0 := aw_0
  have hlen := aw_len
  generalize reqB awReq = L at *
  replace h0 := box h0
  replace hlen := box hlen
  go_enter Try.func12, Try.ntmps12
  go_wp2_with (first | (with_reducible refine lst (by with_unfolding_all rfl) (wp_fbuild Try.underlying31 (z := .agg (List.toArray rq0)) (by kernel_rfl) (pl := rqP) (by kernel_rfl) (cs := (awReq.cells none 0)) rfl (vs := [(0, .int .i64 18)]) (by with_unfolding_all rfl) (by with_unfolding_all exact rq0_fill1 (v := .int .i64 18) rfl) ?_)))
  refine (hE.out w).mono ?_
  rintro e w1 ⟨v1, rfl, ho1, hb1⟩
  obtain ⟨A1, c1, rfl, hc1, hr1⟩ := ho1.arg
  rw [hlen.out] at hr1 hc1 ho1 ⊢
  have hF1 := hF0.gotB hb1 ho1
  go_wp2_with fail
  refine (hD.out A1 39 c1 w1 (by omega) hc1 hr1).mono ?_
  rintro e w2 ⟨A2, c2, rfl, _, hb2⟩
  have hF2 := hF1.call hb2
  have hcl := Req.cells_len awReq A2 c2 (by decide +kernel)
  replace hcl := box hcl
  have hrq := rq0_len
  replace hrq := box hrq
  have hop : Box ((awReq.cells A2 c2)[0]? = some (.int .i64 18)) := box rfl
  go_wp2_with (first | ((with_reducible refine lst (by with_unfolding_all rfl) (wp_falloc hF2 (cs := rq0) (z := .agg (List.toArray (rq0))) rfl (by kernel_rfl) (by with_unfolding_all rfl) ?_)); intro w3 g3 hF3 hz3) | ((with_reducible refine lst (by with_unfolding_all rfl) (wp_fstA0 hF3 (by with_unfolding_all exact ⟨_, _, rfl, rfl, rfl⟩) (by rw [hcl.out]; kernel_rfl) (Req.cells_one _ _ _) (by rw [hcl.out, hrq.out]; omega) (spl_all (by rw [hcl.out, hrq.out])) ?_)); intro w4 hF4 hz4) | (with_reducible refine lst (by with_unfolding_all rfl) (wp_indexAddr T_u8 hF4.rdOwn1 (by with_unfolding_all exact ⟨_, _, _, _, rfl, rfl, rfl⟩) (by omega) (by omega) ?_)) | (with_reducible refine lst (by with_unfolding_all rfl) (wp_loadC hF4.rdOwn1 h0 Try.underlying5 rfl (by with_unfolding_all exact ⟨_, rfl, rfl⟩) (by first | (simp; done) | (simp; omega) | omega) ?_)) | (with_reducible refine lst (by with_unfolding_all rfl) (wp_fld0 hF4 Try.underlying3 rfl (by with_unfolding_all exact ⟨_, rfl, rfl⟩) hop.out ?_)))
  go_ret
  exact ⟨rfl, hF4.below⟩
end Go.Proofs.Ytcnjnkkdidpjiaa

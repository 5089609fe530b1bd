/-
  Layer 19: the walk of the document's DecodeReply.
-/
import Derived.Test.YtcnjnkkdidpjiaaJ11
import Derived.Test.YtcnjnkkdidpjiaaJ07
import Derived.Test.YtcnjnkkdidpjiaaJ13
import Derived.Test.YtcnjnkkdidpjiaaJ14
import Derived.Test.YtcnjnkkdidpjiaaJ15
import Derived.Deep.DeepCutAuto
namespace Go.Proofs.Ytcnjnkkdidpjiaa
open Go.RowKit

set_option maxRecDepth 20000 in
set_option maxHeartbeats 3200000 in
theorem decRepF_any (A : Option Addr) (n c : Nat) (l : List UInt8) (w : World) (hn : n ≤ 140737488355000) (hnc : n ≤ c) (hr : Rd w (· < w.heap.size) A 1 n (l.map bv)) :
    Calls Try.prog 21 #[.slice A n c] w (ToldRep w 5 9 22 (decRep l)) := by
  have hl := hr.bytes_len
  have hF0 := Fr.nil w
  have hz0 := zeros_len
  replace hz0 := box hz0
  cases l with
  | nil =>
    obtain rfl : n = 0 := by simpa using hl.symm
    go_enter Try.func21, Try.ntmps21
    go_wp2_with (first | ((with_reducible refine lst (by with_unfolding_all rfl) (wp_falloc hF0 (cs := rp0) (z := .agg (List.toArray (rp0))) rfl (by kernel_rfl) (by with_unfolding_all rfl) ?_)); intro w1 g1 hF1 hz1) | (with_reducible refine lst (by with_unfolding_all rfl) (wp_fbuild Try.underlying47 (z := .agg (List.toArray rp0)) (by kernel_rfl) (pl := rpP) (by kernel_rfl) (cs := rp0) rfl (vs := []) (by with_unfolding_all rfl) (by with_unfolding_all exact rp0_fill) ?_)) | ((with_reducible refine lst (by with_unfolding_all rfl) (wp_fstA0 hF1 (by with_unfolding_all exact ⟨_, _, rfl, rfl, rfl⟩) (by kernel_rfl) (by decide +kernel) (by simp) (spl_all rfl) ?_)); intro w2 hF2 hz2))
    refine bodyPost_ret (results_cellF2_0 hF2 rfl _ rfl Try.underlying47 rfl (by kernel_rfl)) rfl ?_
    exact ⟨none, none, none, 0, 0, 0, rfl, told_none hF2⟩
  | cons x l =>
    have hx0 : Box ((x :: l)[0]? = some x) := box rfl
    have hxb := x.toNat_lt
    have hnl : n = l.length + 1 := by simpa using hl.symm
    have hn1 : 1 ≤ n := by omega
    replace hnl := box hnl
    clear hl
    have b0 : decide ((n : Int) < 1) = false := by simp; omega
    have hdec : Box (decRep (x :: l) = if 100 < (tookP l).k.1 then none else if 4096 < (tookP l).j.1 then none else if (tookP l).ss.2 = some [] then some ((tookP l).rep x) else none) := box rfl
    go_enter Try.func21, Try.ntmps21
    go_wp2_with (first | ((with_reducible refine lst (by with_unfolding_all rfl) (wp_falloc hF0 (cs := rp0) (z := .agg (List.toArray (rp0))) rfl (by kernel_rfl) (by with_unfolding_all rfl) ?_)); intro w1 g1 hF1 hz1) | (with_reducible refine lst (by with_unfolding_all rfl) (wp_indexAddr T_u8 (hF1.rdOld hr) (by with_unfolding_all exact ⟨_, _, _, _, rfl, rfl, rfl⟩) (by omega) (by omega) ?_)) | (with_reducible refine lst (by with_unfolding_all rfl) (wp_loadC (hF1.rdOld hr) hx0 Try.underlying5 rfl (by with_unfolding_all exact ⟨_, rfl, rfl⟩) (by first | (simp; done) | (simp; omega) | omega) ?_)) | ((with_reducible refine lst (by with_unfolding_all rfl) (wp_fbox hF1 (cs := [.slice A n c, .int .i64 1]) rfl (by with_unfolding_all rfl) (by with_unfolding_all rfl) ?_)); intro w2 g2 hF2 hz2) | (with_reducible refine lst (by with_unfolding_all rfl) (wp_indexAddr T_u8 (hF2.rdOld hr) (by with_unfolding_all exact ⟨_, _, _, _, rfl, rfl, rfl⟩) (by omega) (by omega) ?_)) | (with_reducible refine lst (by with_unfolding_all rfl) (wp_loadC (hF2.rdOld hr) hx0 Try.underlying5 rfl (by with_unfolding_all exact ⟨_, rfl, rfl⟩) (by first | (simp; done) | (simp; omega) | omega) ?_)) | (with_reducible refine lst (by with_unfolding_all rfl) (wp_fbuild Try.underlying47 (z := .agg (List.toArray rp0)) (by kernel_rfl) (pl := rpP) (by kernel_rfl) (cs := (rpL (.int .i64 (x.toNat : Int)) (zeros.map bv) (.int .i64 0) (.int .i64 0) (.slice none 0 0) (.slice none 0 0) (.slice none 0 0))) rfl (vs := [(0, .int .i64 (x.toNat : Int))]) (by with_unfolding_all rfl) (by with_unfolding_all exact rp0_fill1 rfl) ?_)) | ((with_reducible refine lst (by with_unfolding_all rfl) (wp_falloc hF2 (cs := rp0) (z := .agg (List.toArray (rp0))) rfl (by kernel_rfl) (by with_unfolding_all rfl) ?_)); intro w3 g3 hF3 hz3) | ((with_reducible refine lst (by with_unfolding_all rfl) (wp_fstA0 hF3 (by with_unfolding_all exact ⟨_, _, rfl, rfl, rfl⟩) (by rw [rpL_length hz0.out]; kernel_rfl) (rpL_one (bv_one _) rfl rfl rfl rfl rfl rfl) (by simp only [rp0, rpL_length hz0.out] <;> omega) (spl_all (by simp only [rp0, rpL_length hz0.out])) ?_)); intro w4 hF4 hz4))
    have hI : InAt A n c (x :: l) (some l) [.slice A n c, .int .i64 1] := ⟨1, rfl, .inr ⟨1, hn1, rfl, box rfl⟩⟩
    clear hF0 hF1 hF2 hF3 b0
    have hg2 : w.heap.size ≤ g2 := by simpa using hF4.fresh 1 _ rfl g2 rfl
    obtain ⟨d1, hd1⟩ : ∃ t, t = rSum (some l) := ⟨_, rfl⟩
    obtain ⟨n1, hn1'⟩ : ∃ t, t = rCount d1.2 := ⟨_, rfl⟩
    obtain ⟨n2, hn2⟩ : ∃ t, t = rCount n1.2 := ⟨_, rfl⟩
    obtain ⟨t4, ht4⟩ : ∃ t, t = rText 1048576 n2.2 := ⟨_, rfl⟩
    obtain ⟨k1, hk1⟩ : ∃ t, t = rCount t4.2 := ⟨_, rfl⟩
    obtain ⟨ws, hws⟩ : ∃ t, t = rWords k1.1 k1.2 := ⟨_, rfl⟩
    obtain ⟨j1, hj1⟩ : ∃ t, t = rCount ws.2 := ⟨_, rfl⟩
    obtain ⟨ss, hss⟩ : ∃ t, t = rSums j1.1 j1.2 := ⟨_, rfl⟩
    have htk : tookP l = ⟨d1, n1, n2, t4, k1, ws, j1, ss⟩ := by unfold tookP; simp only []; rw [← hd1, ← hn1', ← hn2, ← ht4, ← hk1, ← hws, ← hj1, ← hss]
    rw [htk] at hdec
    have hd3 : (d1.1.map bv).length = 32 := by rw [hd1, List.length_map, rSum_len]
    replace hd3 := box hd3
    replace hd1 := box hd1
    replace hn1' := box hn1'
    replace hn2 := box hn2
    replace ht4 := box ht4
    replace hk1 := box hk1
    replace hws := box hws
    replace hj1 := box hj1
    replace hss := box hss
    clear htk
    refine (inDigest_any g2 A n c (x :: l) (some l) _ w4 hF4.heap1 hI ((hr.below hF4.below).mono fun k hk => ⟨Nat.lt_of_lt_of_le hk hF4.size, by have hk : k < w.heap.size := hk; simp; omega⟩) hn).mono ?_
    rintro e w9 ⟨cs9, rfl, hg9, hh9, hI9⟩
    rw [← hd1.out] at hI9 ⊢
    have hF9 := hF4.put1 hg9 hh9
    clear hI hF4 hg9 hh9
    go_wp2_with (first | ((with_reducible refine lst (by with_unfolding_all rfl) (wp_fstA0 hF9 (by with_unfolding_all exact ⟨_, _, rfl, rfl, rfl⟩) (by rw [hd3.out]; kernel_rfl) (bv_one _) (by rw [rpL_length hz0.out, hd3.out]; omega) (rpL_1 hz0.out hd3.out) ?_)); intro w10 hF10 hz10))
    refine (inCount_any g2 A n c (x :: l) d1.2 _ w10 hF10.heap1 hI9 (hF10.rdOld hr) hn hnc).mono ?_
    rintro e w11 ⟨cs11, rfl, hg11, hh11, hI11⟩
    rw [← hn1'.out] at hI11 ⊢
    have hF11 := hF10.put1 hg11 hh11
    clear hI9 hF9 hF10 hg11 hh11
    go_wp2_with (first | ((with_reducible refine lst (by with_unfolding_all rfl) (wp_fst0 hF11 (by with_unfolding_all exact ⟨_, _, rfl, rfl, rfl⟩) (by kernel_rfl) rfl rfl (by rw [rpL_length hd3.out]; omega) (rpL_33 (v := .int .i64 (n1.1 : Int)) hd3.out) ?_)); intro w12 hF12 hz12))
    refine (inCount_any g2 A n c (x :: l) n1.2 _ w12 hF12.heap1 hI11 (hF12.rdOld hr) hn hnc).mono ?_
    rintro e w13 ⟨cs13, rfl, hg13, hh13, hI13⟩
    rw [← hn2.out] at hI13 ⊢
    have hF13 := hF12.put1 hg13 hh13
    clear hI11 hF11 hF12 hg13 hh13
    go_wp2_with (first | ((with_reducible refine lst (by with_unfolding_all rfl) (wp_fst0 hF13 (by with_unfolding_all exact ⟨_, _, rfl, rfl, rfl⟩) (by kernel_rfl) rfl rfl (by rw [rpL_length hd3.out]; omega) (rpL_34 (v := .int .i64 (n2.1 : Int)) hd3.out) ?_)); intro w14 hF14 hz14))
    refine (inText_any g2 A n c (x :: l) n2.2 _ 1048576 w14 hF14.heap1 hI13 (hF14.rdOld hr) hn hnc (by omega)).mono ?_
    rintro e w17 ⟨v17, cs17, rfl, ho17, hg17, hh17, hI17⟩
    rw [← ht4.out] at ho17 hI17
    obtain ⟨A17, c17, rfl, hc17, hr17⟩ := ho17.arg
    have hF17 := hF14.putGot1 hg17 hh17 ho17
    clear hI13 hF13 hF14 hg17 hh17 ho17
    go_wp2_with (first | ((with_reducible refine lst (by with_unfolding_all rfl) (wp_fst1 hF17 (by with_unfolding_all exact ⟨_, _, rfl, rfl, rfl⟩) (by kernel_rfl) rfl rfl (by rw [rpL_length hd3.out]; omega) (rpL_35 (v := .slice A17 t4.1.length c17) hd3.out) ?_)); intro w18 hF18 hz18))
    refine (inCount_any g2 A n c (x :: l) t4.2 _ w18 hF18.heap2 hI17 (hF18.rdOld hr) hn hnc).mono ?_
    rintro e w19 ⟨cs19, rfl, hg19, hh19, hI19⟩
    rw [← hk1.out] at hI19 ⊢
    have hF19 := hF18.put2 hg19 hh19
    clear hI17 hF17 hF18 hg19 hh19
    by_cases hbig : 100 < k1.1
    · have hno : Box (decRep (x :: l) = none) := box (by rw [hdec.out, if_pos hbig])
      have b7 : decide (100 < (k1.1 : Int)) = true := by simp; omega
      have b6 : decide ((k1.1 : Int) ≤ 100) = false := by simp; omega
      have b4 : decide ((0 : Int) < (k1.1 : Int)) = true := by simp; omega
      obtain ⟨q, rfl, hq⟩ := hI19.ex
      go_wp2_with fail
      go_loopw [7] (fun i wr => i = .int .i64 0 ∧ wr = w19) (fun _ _ => 0)
      case atStart => exact ⟨rfl, rfl⟩
      case round =>
        obtain ⟨rfl, rfl⟩ := hrel
        go_wp2_with fail
        go_loopw [10] (fun i wq => i = .int .i64 0 ∧ wq = wr) (fun _ _ => 0)
        case atStart => exact ⟨rfl, rfl⟩
        case round =>
          obtain ⟨rfl, rfl⟩ := hrel
          cases b9 : (q != (n : Int))
          all_goals
            go_wp2_with (first | (with_reducible refine lst (by with_unfolding_all rfl) (wp_fld2 hF19 Try.underlying3 rfl (by with_unfolding_all exact ⟨_, rfl, rfl⟩) (by first | with_unfolding_all rfl | assumption) ?_)) | (with_reducible refine lst (by with_unfolding_all rfl) (wp_fbuild Try.underlying47 (z := .agg (List.toArray rp0)) (by kernel_rfl) (pl := rpP) (by kernel_rfl) (cs := rp0) rfl (vs := []) (by with_unfolding_all rfl) (by with_unfolding_all exact rp0_fill) ?_)) | ((with_reducible refine lst (by with_unfolding_all rfl) (wp_fstA3 hF19 (by with_unfolding_all exact ⟨_, _, rfl, rfl, rfl⟩) (by kernel_rfl) (by decide +kernel) (by simp) (spl_all rfl) ?_)); intro w23 hF23 hz23))
            refine bodyPost_ret (results_cellF2_3 hF23 rfl _ rfl Try.underlying47 rfl (by kernel_rfl)) rfl ?_
            rw [hno.out]
            exact ⟨none, none, none, 0, 0, 0, rfl, told_none hF23⟩
    · have b7 : decide (100 < (k1.1 : Int)) = false := by simp; omega
      have b6 : decide ((k1.1 : Int) ≤ 100) = true := by simp; omega
      have hk100 : k1.1 ≤ 100 := by omega
      go_wp2_with fail
      have hFw := (hF19.none_ w.heap.size 22 32).none_ w.heap.size 9 1
      go_loopw [7] (fun i wr => ∃ (k : Nat) (us : List ByteArray) (s : Option (List UInt8)) (cs : List Value) (A' : Option Addr) (c' : Nat), k ≤ k1.1 ∧ i = .int .i64 k ∧ Box (WAt k1.1 k1.2 k us s) ∧ InAt A n c (x :: l) s cs ∧ Fr [] w wr [.own w.heap.size 9 1 (.slice A' us.length c') us.length (us.map Value.string), .own w.heap.size 22 32 (.slice none 0 0) 0 [], Ent.bytes w.heap.size 5 (.slice A17 t4.1.length c17) t4.1, .blk g3 47 (rpL (.int .i64 (x.toNat : Int)) (d1.1.map bv) (.int .i64 (n1.1 : Int)) (.int .i64 (n2.1 : Int)) (.slice A17 t4.1.length c17) (.slice A' us.length c') (.slice none 0 0)), .blk g2 78 cs, .blk g1 47 rp0]) (fun i _ => k1.1 - (intOf i).toNat)
      case atStart => exact ⟨0, [], _, _, none, 0, by omega, rfl, box (WAt.zero _ _), hI19, hFw⟩
      case round =>
        clear hFw hF19 hI19
        obtain ⟨k, us, s, cs, A', c', hk, rfl, HW, hIs, hF⟩ := hrel
        obtain ⟨q, rfl, hq⟩ := hIs.ex
        go_upto_region 11 with fail
        go_cut [51] (fun s51 wx => wx = wr ∧ s51 = .bool (decide (k < k1.1) && decide (0 ≤ q)))
        case first =>
          by_cases hlt : k < k1.1
          · have e9 : (decide (k < k1.1) && decide (0 ≤ q)) = decide (0 ≤ q) := by simp [hlt]
            go_wp2_with (first | (with_reducible refine lst (by with_unfolding_all rfl) (wp_fld4 hF Try.underlying3 rfl (by with_unfolding_all exact ⟨_, rfl, rfl⟩) (by first | with_unfolding_all rfl | assumption) ?_)))
            go_meet
            exact ⟨rfl, by rw [e9]⟩
          · have e9 : (decide (k < k1.1) && decide (0 ≤ q)) = false := by simp [hlt]
            go_wp2
            go_meet
            exact ⟨rfl, by rw [e9]⟩
        case rest =>
          obtain ⟨rfl, rfl⟩ := hcut
          by_cases hgo : (decide (k < k1.1) && decide (0 ≤ q)) = true
          · rw [hgo]
            simp only [Bool.and_eq_true, decide_eq_true_eq] at hgo
            obtain ⟨hlt, hq0⟩ := hgo
            obtain ⟨lr, rfl⟩ : ∃ lr, s = some lr := by
              rcases hq with ⟨h, _⟩ | ⟨j, _, _, hs⟩
              · omega
              · exact ⟨_, hs.out⟩
            have hus : us.length < 100 := by have := HW.out.2; omega
            have hst := box (HW.out.step hlt)
            clear hq
            go_wp2_with fail
            refine (inText_any g2 A n c (x :: l) (some lr) _ 128 _ hF.heap4 hIs (hF.rdOld hr) hn hnc (by omega)).mono ?_
            rintro e w5 ⟨v5, cs5, rfl, ho5, hg5, hh5, hI5⟩
            obtain ⟨A5, c5, rfl, hc5, hr5⟩ := ho5.arg
            have hF5 := hF.putGot4 hg5 hh5 ho5
            clear hF hIs hg5 hh5 ho5 hr5
            go_wp2_with (first | (with_reducible refine lst (by with_unfolding_all rfl) (wp_fld4 hF5 Try.underlying44 rfl (by with_unfolding_all exact ⟨_, rfl, rfl⟩) ((rpL_at hd3.out).2.2.2.1) ?_)) | (with_reducible refine lst (by with_unfolding_all rfl) (wp_b2s T_u8 Try.underlying5 Try.underlying9 hF5.rdOwn0 (by with_unfolding_all exact ⟨_, rfl, rfl⟩) ?_)) | ((with_reducible refine lst (by with_unfolding_all rfl) (wp_fbsl T_str hF5 (vs := [.string ⟨(rText 128 (some lr)).1.toArray⟩]) (by with_unfolding_all rfl) (by with_unfolding_all rfl) (by with_unfolding_all rfl) (by decide) (by simp [Value.cells]) ?_)); intro w6 g6 hF6 hz6) | ((with_reducible refine lst (by with_unfolding_all rfl) (wp_fappG T_str hF6 (i := 2) rfl (Nat.le_refl _) hF6.rdOwn0 (str_one1 _) (by with_unfolding_all exact ⟨_, _, rfl, rfl, rfl⟩) (by unfold maxLen; omega) (by omega) ?_)); intro v7 w7 hF7 hz7; simp only [List.set_cons_zero, List.set_cons_succ] at hF7; obtain ⟨A7, c7, rfl, hc7⟩ := hF7.ownParts (i := 2) rfl) | ((with_reducible refine lst (by with_unfolding_all rfl) (wp_fst5 hF7 (by with_unfolding_all exact ⟨_, _, rfl, rfl, rfl⟩) (by kernel_rfl) rfl rfl (by rw [rpL_length hd3.out]; omega) (rpL_36 (v := .slice A7 (us.length + 1) c7) hd3.out) ?_)); intro w8 hF8 hz8))
            go_roundw
            case rel => exact ⟨k + 1, _, _, _, A7, c7, by omega, by go_num, hst, hI5, by have h := hF8.tail.tail; simpa only [List.length_append, List.length_cons, List.length_nil, List.map_append, List.map_cons, List.map_nil, Nat.zero_add] using h⟩
            case measure => simp [intOf]; omega
          · have hend : ws = (us, s) := by
              rw [hws.out]
              by_cases hlt : k < k1.1
              · have h0 : ¬ 0 ≤ q := fun h => hgo (by simp [hlt, h])
                rcases hq with ⟨_, hs⟩ | ⟨j, _, h1, _⟩
                · obtain rfl := hs.out
                  exact HW.out.none_
                · omega
              · exact HW.out.all (by omega)
            have hgo' : (decide (k < k1.1) && decide (0 ≤ q)) = false := Bool.eq_false_iff.2 hgo
            have husl : us.length ≤ 100 := by have := HW.out.2; omega
            rw [hgo']
            clear hgo hgo' HW hws hq
            subst hend
            replace hj1 : Box (j1 = rCount s) := hj1
            go_wp2_with fail
            refine (inCount_any g2 A n c (x :: l) s _ _ hF.heap4 hIs (hF.rdOld hr) hn hnc).mono ?_
            rintro e w21 ⟨cs21, rfl, hg21, hh21, hI21⟩
            rw [← hj1.out] at hI21 ⊢
            have hF21 := hF.put4 hg21 hh21
            clear hF hIs hg21 hh21
            by_cases hbig2 : 4096 < j1.1
            · have hno : Box (decRep (x :: l) = none) := box (by rw [hdec.out, if_neg hbig, if_pos hbig2])
              have b8 : decide (4096 < (j1.1 : Int)) = true := by simp; omega
              have b5 : decide ((j1.1 : Int) ≤ 4096) = false := by simp; omega
              have b4 : decide ((0 : Int) < (j1.1 : Int)) = true := by simp; omega
              obtain ⟨q, rfl, hq⟩ := hI21.ex
              go_wp2_with fail
              go_loopw [10] (fun i wq => i = .int .i64 0 ∧ wq = w21) (fun _ _ => 0)
              case atStart => exact ⟨rfl, rfl⟩
              case round =>
                obtain ⟨rfl, rfl⟩ := hrel
                cases b9 : (q != (n : Int))
                all_goals
                  go_wp2_with (first | (with_reducible refine lst (by with_unfolding_all rfl) (wp_fld4 hF21 Try.underlying3 rfl (by with_unfolding_all exact ⟨_, rfl, rfl⟩) (by first | with_unfolding_all rfl | assumption) ?_)) | (with_reducible refine lst (by with_unfolding_all rfl) (wp_fbuild Try.underlying47 (z := .agg (List.toArray rp0)) (by kernel_rfl) (pl := rpP) (by kernel_rfl) (cs := rp0) rfl (vs := []) (by with_unfolding_all rfl) (by with_unfolding_all exact rp0_fill) ?_)) | ((with_reducible refine lst (by with_unfolding_all rfl) (wp_fstA5 hF21 (by with_unfolding_all exact ⟨_, _, rfl, rfl, rfl⟩) (by kernel_rfl) (by decide +kernel) (by simp) (spl_all rfl) ?_)); intro w23 hF23 hz23))
                  refine bodyPost_ret (results_cellF2_5 hF23 rfl _ rfl Try.underlying47 rfl (by kernel_rfl)) rfl ?_
                  rw [hno.out]
                  exact ⟨none, none, none, 0, 0, 0, rfl, told_none hF23⟩
            · have b8 : decide (4096 < (j1.1 : Int)) = false := by simp; omega
              have b5 : decide ((j1.1 : Int) ≤ 4096) = true := by simp; omega
              have hj4 : j1.1 ≤ 4096 := by omega
              go_wp2_with fail
              go_loopw [10] (fun i wr => ∃ (k : Nat) (vs : List (List UInt8)) (s : Option (List UInt8)) (cs : List Value) (C' : Option Addr) (d' : Nat), k ≤ j1.1 ∧ i = .int .i64 k ∧ Box (SAt j1.1 j1.2 k vs s) ∧ InAt A n c (x :: l) s cs ∧ Fr [] w wr [.own w.heap.size 9 1 (.slice A' us.length c') us.length (us.map Value.string), .own w.heap.size 22 32 (.slice C' vs.length d') vs.length (sumC vs), Ent.bytes w.heap.size 5 (.slice A17 t4.1.length c17) t4.1, .blk g3 47 (rpL (.int .i64 (x.toNat : Int)) (d1.1.map bv) (.int .i64 (n1.1 : Int)) (.int .i64 (n2.1 : Int)) (.slice A17 t4.1.length c17) (.slice A' us.length c') (.slice C' vs.length d')), .blk g2 78 cs, .blk g1 47 rp0]) (fun i _ => j1.1 - (intOf i).toNat)
              case atStart => exact ⟨0, [], _, _, none, 0, by omega, rfl, box (SAt.zero _ _), hI21, hF21⟩
              case round =>
                clear hF21 hI21
                obtain ⟨k, vs, s, cs, C', d', hk, rfl, HW, hIs, hF⟩ := hrel
                obtain ⟨q, rfl, hq⟩ := hIs.ex
                go_upto_region 19 with fail
                go_cut [80] (fun s80 wx => wx = wr ∧ s80 = .bool (decide (k < j1.1) && decide (0 ≤ q)))
                case first =>
                  by_cases hlt : k < j1.1
                  · have e9 : (decide (k < j1.1) && decide (0 ≤ q)) = decide (0 ≤ q) := by simp [hlt]
                    go_wp2_with (first | (with_reducible refine lst (by with_unfolding_all rfl) (wp_fld4 hF Try.underlying3 rfl (by with_unfolding_all exact ⟨_, rfl, rfl⟩) (by first | with_unfolding_all rfl | assumption) ?_)))
                    go_meet
                    exact ⟨rfl, by rw [e9]⟩
                  · have e9 : (decide (k < j1.1) && decide (0 ≤ q)) = false := by simp [hlt]
                    go_wp2
                    go_meet
                    exact ⟨rfl, by rw [e9]⟩
                case rest =>
                  obtain ⟨rfl, rfl⟩ := hcut
                  by_cases hgo : (decide (k < j1.1) && decide (0 ≤ q)) = true
                  · rw [hgo]
                    simp only [Bool.and_eq_true, decide_eq_true_eq] at hgo
                    obtain ⟨hlt, hq0⟩ := hgo
                    obtain ⟨lr, rfl⟩ : ∃ lr, s = some lr := by
                      rcases hq with ⟨h, _⟩ | ⟨j, _, _, hs⟩
                      · omega
                      · exact ⟨_, hs.out⟩
                    have hus : vs.length < 4096 := by have := HW.out.2.1; omega
                    have hst := box (HW.out.step hlt)
                    have hd5 : Box (((rSum (some lr)).1.map bv).length = 32) := box (by rw [List.length_map]; exact rSum_len _)
                    clear hq
                    go_wp2_with fail
                    refine (inDigest_any g2 A n c (x :: l) (some lr) _ _ hF.heap4 hIs ((hr.below hF.below).mono fun k hk => ⟨Nat.lt_of_lt_of_le hk hF.size, by have hk : k < w.heap.size := hk; simp; omega⟩) hn).mono ?_
                    rintro e w5 ⟨cs5, rfl, hg5, hh5, hI5⟩
                    have hF5 := hF.put4 hg5 hh5
                    clear hF hIs hg5 hh5
                    go_wp2_with (first | ((with_reducible refine lst (by with_unfolding_all rfl) (wp_falloc hF5 (cs := (zeros.map bv)) (z := .agg (List.toArray ((zeros.map bv)))) rfl (by kernel_rfl) (by with_unfolding_all rfl) ?_)); intro w6 g6 hF6 hz6) | ((with_reducible refine lst (by with_unfolding_all rfl) (wp_fstA0 hF6 (by with_unfolding_all exact ⟨_, _, rfl, rfl, rfl⟩) (by rw [hd5.out]; kernel_rfl) (bv_one _) (by rw [hd5.out, hz0.out]; omega) (spl_all (by rw [hd5.out, hz0.out])) ?_)); intro w7 hF7 hz7) | (with_reducible refine lst (by with_unfolding_all rfl) (wp_fld4 hF7 Try.underlying45 rfl (by with_unfolding_all exact ⟨_, rfl, rfl⟩) ((rpL_at hd3.out).2.2.2.2) ?_)) | (with_reducible refine lst (by with_unfolding_all rfl) (wp_fldA0 hF7 Try.underlying22 rfl (by with_unfolding_all exact ⟨_, rfl, rfl⟩) (ds := ((rSum (some lr)).1.map bv)) (by rw [hd5.out]; kernel_rfl) (take_all _) ?_)) | ((with_reducible refine lst (by with_unfolding_all rfl) (wp_fbs1 T_sums hF7 (by with_unfolding_all rfl) (ds := ((rSum (some lr)).1.map bv)) (by with_unfolding_all rfl) hd5.out (by decide) ?_)); intro w8 g8 hF8 hz8) | ((with_reducible refine lst (by with_unfolding_all rfl) (wp_fappG T_sums hF8 (i := 3) rfl (Nat.le_refl _) hF8.rdOwn0 (bv_one _) (by with_unfolding_all exact ⟨_, _, rfl, rfl, rfl⟩) (by unfold maxLen; omega) (by omega) ?_)); intro v9 w9 hF9 hz9; simp only [List.set_cons_zero, List.set_cons_succ] at hF9; obtain ⟨A9, c9, rfl, hc9⟩ := hF9.ownParts (i := 3) rfl) | ((with_reducible refine lst (by with_unfolding_all rfl) (wp_fst5 hF9 (by with_unfolding_all exact ⟨_, _, rfl, rfl, rfl⟩) (by kernel_rfl) rfl rfl (by rw [rpL_length hd3.out]; omega) (rpL_37 (v := .slice A9 (vs.length + 1) c9) hd3.out) ?_)); intro w10 hF10 hz10))
                    go_roundw
                    case rel => exact ⟨k + 1, _, _, _, A9, c9, by omega, by go_num, hst, hI5, by have h := hF10.tail.tail; simpa only [sumC_snoc, List.length_append, List.length_cons, List.length_nil, List.map_append, List.map_cons, List.map_nil, Nat.zero_add] using h⟩
                    case measure => simp [intOf]; omega
                  · have hend : ss = (vs, s) := by
                      rw [hss.out]
                      by_cases hlt : k < j1.1
                      · have h0 : ¬ 0 ≤ q := fun h => hgo (by simp [hlt, h])
                        rcases hq with ⟨_, hs⟩ | ⟨j, _, h1, _⟩
                        · obtain rfl := hs.out
                          exact HW.out.none_
                        · omega
                      · exact HW.out.all (by omega)
                    have hgo' : (decide (k < j1.1) && decide (0 ≤ q)) = false := Bool.eq_false_iff.2 hgo
                    rw [hgo']
                    clear hgo hgo' HW hss hk
                    subst hend
                    rcases hq with ⟨rfl, hs⟩ | ⟨k, hk, rfl, hs⟩
                    · have hno : Box (decRep (x :: l) = none) := box (by rw [hdec.out, if_neg hbig, if_neg hbig2, if_neg (by show ¬ s = some []; rw [hs.out]; simp)])
                      have b9 : ((-1 : Int) != (n : Int)) = true := by rw [bne_iff_ne]; omega
                      go_wp2_with (first | (with_reducible refine lst (by with_unfolding_all rfl) (wp_fld4 hF Try.underlying3 rfl (by with_unfolding_all exact ⟨_, rfl, rfl⟩) (by first | with_unfolding_all rfl | assumption) ?_)) | (with_reducible refine lst (by with_unfolding_all rfl) (wp_fbuild Try.underlying47 (z := .agg (List.toArray rp0)) (by kernel_rfl) (pl := rpP) (by kernel_rfl) (cs := rp0) rfl (vs := []) (by with_unfolding_all rfl) (by with_unfolding_all exact rp0_fill) ?_)) | ((with_reducible refine lst (by with_unfolding_all rfl) (wp_fstA5 hF (by with_unfolding_all exact ⟨_, _, rfl, rfl, rfl⟩) (by kernel_rfl) (by decide +kernel) (by simp) (spl_all rfl) ?_)); intro w23 hF23 hz23))
                      refine bodyPost_ret (results_cellF2_5 hF23 rfl _ rfl Try.underlying47 rfl (by kernel_rfl)) rfl ?_
                      rw [hno.out]
                      exact ⟨none, none, none, 0, 0, 0, rfl, told_none hF23⟩
                    · by_cases hkn : k = n
                      · have hyes : Box (decRep (x :: l) = some ⟨(x.toNat : Int), d1.1, n1.1, n2.1, t4.1, us, vs⟩) := box (by rw [hdec.out, if_neg hbig, if_neg hbig2, if_pos (by show s = some []; rw [hs.out, hkn, List.drop_of_length_le (by rw [List.length_cons, hnl.out]; omega)])]; rfl)
                        have b9 : ((k : Int) != (n : Int)) = false := by simp; omega
                        replace hkn := box hkn
                        go_wp2_with (first | (with_reducible refine lst (by with_unfolding_all rfl) (wp_fld4 hF Try.underlying3 rfl (by with_unfolding_all exact ⟨_, rfl, rfl⟩) (by first | with_unfolding_all rfl | assumption) ?_)) | (with_reducible refine lst (by with_unfolding_all rfl) (wp_fldA3 hF Try.underlying47 rfl (by with_unfolding_all exact ⟨_, rfl, rfl⟩) (ds := (rpL (.int .i64 (x.toNat : Int)) (d1.1.map bv) (.int .i64 (n1.1 : Int)) (.int .i64 (n2.1 : Int)) (.slice A17 t4.1.length c17) (.slice A' us.length c') (.slice C' vs.length d'))) (by rw [rpL_length hd3.out]; kernel_rfl) (take_all _) ?_)) | ((with_reducible refine lst (by with_unfolding_all rfl) (wp_fstA5 hF (by with_unfolding_all exact ⟨_, _, rfl, rfl, rfl⟩) (by rw [rpL_length hd3.out]; kernel_rfl) (rpL_one (bv_one _) rfl rfl rfl rfl rfl rfl) (by rw [rpL_length hd3.out, rp0, rpL_length hz0.out]; omega) (spl_all (by rw [rpL_length hd3.out, rp0, rpL_length hz0.out])) ?_)); intro w23 hF23 hz23))
                        refine bodyPost_ret (results_cellF2_5 hF23 rfl _ rfl Try.underlying47 rfl (by rw [rpL_length hd3.out]; kernel_rfl)) rfl ?_
                        rw [hyes.out]
                        exact ⟨A17, A', C', c17, c', d', rfl, hF23.pick3 (i := 2) (j := 0) (k := 1) rfl rfl rfl (by decide) (by decide) (by decide)⟩
                      · have hno : Box (decRep (x :: l) = none) := box (by
                          rw [hdec.out, if_neg hbig, if_neg hbig2, if_neg]
                          show ¬ s = some []
                          rw [hs.out]
                          intro h
                          injection h with h
                          have := congrArg List.length h
                          rw [List.length_drop, List.length_cons, ← hnl.out, List.length_nil] at this
                          omega)
                        have b9 : ((k : Int) != (n : Int)) = true := by simp; omega
                        replace hkn := box hkn
                        go_wp2_with (first | (with_reducible refine lst (by with_unfolding_all rfl) (wp_fld4 hF Try.underlying3 rfl (by with_unfolding_all exact ⟨_, rfl, rfl⟩) (by first | with_unfolding_all rfl | assumption) ?_)) | (with_reducible refine lst (by with_unfolding_all rfl) (wp_fbuild Try.underlying47 (z := .agg (List.toArray rp0)) (by kernel_rfl) (pl := rpP) (by kernel_rfl) (cs := rp0) rfl (vs := []) (by with_unfolding_all rfl) (by with_unfolding_all exact rp0_fill) ?_)) | ((with_reducible refine lst (by with_unfolding_all rfl) (wp_fstA5 hF (by with_unfolding_all exact ⟨_, _, rfl, rfl, rfl⟩) (by kernel_rfl) (by decide +kernel) (by simp) (spl_all rfl) ?_)); intro w23 hF23 hz23))
                        refine bodyPost_ret (results_cellF2_5 hF23 rfl _ rfl Try.underlying47 rfl (by kernel_rfl)) rfl ?_
                        rw [hno.out]
                        exact ⟨none, none, none, 0, 0, 0, rfl, told_none hF23⟩
end Go.Proofs.Ytcnjnkkdidpjiaa

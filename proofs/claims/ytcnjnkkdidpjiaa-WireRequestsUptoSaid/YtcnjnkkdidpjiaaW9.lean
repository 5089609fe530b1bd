/-
  Layer 19: the walk of EncodeRequest, where there are no bytes.
-/
import Derived.Test.YtcnjnkkdidpjiaaW8
namespace Go.Proofs.Ytcnjnkkdidpjiaa
open Go.RowKit

set_option maxRecDepth 20000 in
set_option maxHeartbeats 1600000 in
theorem encReq_bad (r : Req) (A : Option Addr) (c : Nat) (w : World) (hd : r.d.length = 32) (hok : reqOk r = false) :
    Calls Try.prog 7 #[.agg (r.cells A c).toArray] w (Told w 5 [] 1) := by
  obtain ⟨op, repo, word, d, id, at_, n, body⟩ := r
  simp only [Req.cells] at *
  have hdl : (d.map bv).length = 32 := by simpa using hd
  have hq := rqL_at (a := .int .i64 op) (b := .string repo) (c := .string word) (e := .int .i64 id) (f := .int .i64 at_) (g := .int .i64 n) (h := .slice A body.length c) hdl
  replace hq := box hq
  replace hdl := box hdl
  have hF0 := Fr.nil w
  replace hok := box hok
  by_cases kb1 : op < 1
  · have b1 : decide (op < 1) = true := by simpa using kb1
    go_enter Try.func7, Try.ntmps7
    go_wp2_with (first | ((with_reducible refine lst (by with_unfolding_all rfl) (wp_fbox hF0 (cs := (rqL (.int .i64 op) (.string repo) (.string word) (d.map bv) (.int .i64 id) (.int .i64 at_) (.int .i64 n) (.slice A body.length c))) rfl (by with_unfolding_all rfl) (by with_unfolding_all rfl) ?_)); intro w1 g1 hF1 hz1) | (with_reducible refine lst (by with_unfolding_all rfl) (wp_fld0 hF1 Try.underlying3 rfl (by with_unfolding_all exact ⟨_, rfl, rfl⟩) (by first | with_unfolding_all rfl | exact hq.out.1 | exact hq.out.2.1 | exact hq.out.2.2.1) ?_)) | (with_reducible refine lst (by with_unfolding_all rfl) (wp_fld0 hF1 Try.underlying9 rfl (by with_unfolding_all exact ⟨_, rfl, rfl⟩) (by first | with_unfolding_all rfl | assumption) ?_)) | ((with_reducible refine lst (by with_unfolding_all rfl) (wp_fbsl T_int hF1 (vs := [.int .i64 id, .int .i64 at_, .int .i64 n]) (by with_unfolding_all rfl) (by with_unfolding_all rfl) (by with_unfolding_all rfl) (by decide) (by simp [Value.cells]) ?_)); intro w2 g2 hF2 hz2))
    go_ret2
    exact ⟨_, rfl, OwnB.nil _ _ _, (hF1).below⟩
  have b1 : decide (op < 1) = false := by simpa using kb1
  by_cases kb2 : 21 ≤ op
  · have b2 : decide (21 ≤ op) = true := by simpa using kb2
    go_enter Try.func7, Try.ntmps7
    go_wp2_with (first | ((with_reducible refine lst (by with_unfolding_all rfl) (wp_fbox hF0 (cs := (rqL (.int .i64 op) (.string repo) (.string word) (d.map bv) (.int .i64 id) (.int .i64 at_) (.int .i64 n) (.slice A body.length c))) rfl (by with_unfolding_all rfl) (by with_unfolding_all rfl) ?_)); intro w1 g1 hF1 hz1) | (with_reducible refine lst (by with_unfolding_all rfl) (wp_fld0 hF1 Try.underlying3 rfl (by with_unfolding_all exact ⟨_, rfl, rfl⟩) (by first | with_unfolding_all rfl | exact hq.out.1 | exact hq.out.2.1 | exact hq.out.2.2.1) ?_)) | (with_reducible refine lst (by with_unfolding_all rfl) (wp_fld0 hF1 Try.underlying9 rfl (by with_unfolding_all exact ⟨_, rfl, rfl⟩) (by first | with_unfolding_all rfl | assumption) ?_)) | ((with_reducible refine lst (by with_unfolding_all rfl) (wp_fbsl T_int hF1 (vs := [.int .i64 id, .int .i64 at_, .int .i64 n]) (by with_unfolding_all rfl) (by with_unfolding_all rfl) (by with_unfolding_all rfl) (by decide) (by simp [Value.cells]) ?_)); intro w2 g2 hF2 hz2))
    go_ret2
    exact ⟨_, rfl, OwnB.nil _ _ _, (hF1).below⟩
  have b2 : decide (21 ≤ op) = false := by simpa using kb2
  by_cases kb3 : 128 < (repo.size : Int)
  · have b3 : decide (128 < (repo.size : Int)) = true := by simpa using kb3
    go_enter Try.func7, Try.ntmps7
    go_wp2_with (first | ((with_reducible refine lst (by with_unfolding_all rfl) (wp_fbox hF0 (cs := (rqL (.int .i64 op) (.string repo) (.string word) (d.map bv) (.int .i64 id) (.int .i64 at_) (.int .i64 n) (.slice A body.length c))) rfl (by with_unfolding_all rfl) (by with_unfolding_all rfl) ?_)); intro w1 g1 hF1 hz1) | (with_reducible refine lst (by with_unfolding_all rfl) (wp_fld0 hF1 Try.underlying3 rfl (by with_unfolding_all exact ⟨_, rfl, rfl⟩) (by first | with_unfolding_all rfl | exact hq.out.1 | exact hq.out.2.1 | exact hq.out.2.2.1) ?_)) | (with_reducible refine lst (by with_unfolding_all rfl) (wp_fld0 hF1 Try.underlying9 rfl (by with_unfolding_all exact ⟨_, rfl, rfl⟩) (by first | with_unfolding_all rfl | assumption) ?_)) | ((with_reducible refine lst (by with_unfolding_all rfl) (wp_fbsl T_int hF1 (vs := [.int .i64 id, .int .i64 at_, .int .i64 n]) (by with_unfolding_all rfl) (by with_unfolding_all rfl) (by with_unfolding_all rfl) (by decide) (by simp [Value.cells]) ?_)); intro w2 g2 hF2 hz2))
    go_ret2
    exact ⟨_, rfl, OwnB.nil _ _ _, (hF1).below⟩
  have b3 : decide (128 < (repo.size : Int)) = false := by simpa using kb3
  by_cases kb4 : 128 < (word.size : Int)
  · have b4 : decide (128 < (word.size : Int)) = true := by simpa using kb4
    go_enter Try.func7, Try.ntmps7
    go_wp2_with (first | ((with_reducible refine lst (by with_unfolding_all rfl) (wp_fbox hF0 (cs := (rqL (.int .i64 op) (.string repo) (.string word) (d.map bv) (.int .i64 id) (.int .i64 at_) (.int .i64 n) (.slice A body.length c))) rfl (by with_unfolding_all rfl) (by with_unfolding_all rfl) ?_)); intro w1 g1 hF1 hz1) | (with_reducible refine lst (by with_unfolding_all rfl) (wp_fld0 hF1 Try.underlying3 rfl (by with_unfolding_all exact ⟨_, rfl, rfl⟩) (by first | with_unfolding_all rfl | exact hq.out.1 | exact hq.out.2.1 | exact hq.out.2.2.1) ?_)) | (with_reducible refine lst (by with_unfolding_all rfl) (wp_fld0 hF1 Try.underlying9 rfl (by with_unfolding_all exact ⟨_, rfl, rfl⟩) (by first | with_unfolding_all rfl | assumption) ?_)) | ((with_reducible refine lst (by with_unfolding_all rfl) (wp_fbsl T_int hF1 (vs := [.int .i64 id, .int .i64 at_, .int .i64 n]) (by with_unfolding_all rfl) (by with_unfolding_all rfl) (by with_unfolding_all rfl) (by decide) (by simp [Value.cells]) ?_)); intro w2 g2 hF2 hz2))
    go_ret2
    exact ⟨_, rfl, OwnB.nil _ _ _, (hF1).below⟩
  have b4 : decide (128 < (word.size : Int)) = false := by simpa using kb4
  by_cases hfit : [id, at_, n].all numB = true
  · have h5 : 1048576 < (body.length : Int) := by
      refine Int.lt_of_not_ge fun h5 => ?_
      simp only [List.all_cons, List.all_nil, Bool.and_true, Bool.and_eq_true] at hfit
      have := reqOk_of (r := ⟨op, repo, word, d, id, at_, n, body⟩) (by simp only []; omega) (by simp only []; omega) (by simp only []; omega) (by simp only []; omega) (by simp only []; omega) hfit.1 hfit.2.1 hfit.2.2
      rw [hok.out] at this; cases this
    have b5 : decide (1048576 < (body.length : Int)) = true := by simpa using h5
    replace hfit := box hfit
    clear kb1 kb2 kb3 kb4 h5
    go_enter Try.func7, Try.ntmps7
    go_wp2_with (first | ((with_reducible refine lst (by with_unfolding_all rfl) (wp_fbox hF0 (cs := (rqL (.int .i64 op) (.string repo) (.string word) (d.map bv) (.int .i64 id) (.int .i64 at_) (.int .i64 n) (.slice A body.length c))) rfl (by with_unfolding_all rfl) (by with_unfolding_all rfl) ?_)); intro w1 g1 hF1 hz1) | (with_reducible refine lst (by with_unfolding_all rfl) (wp_fld0 hF1 Try.underlying3 rfl (by with_unfolding_all exact ⟨_, rfl, rfl⟩) (by first | with_unfolding_all rfl | exact hq.out.1 | exact hq.out.2.1 | exact hq.out.2.2.1) ?_)) | (with_reducible refine lst (by with_unfolding_all rfl) (wp_fld0 hF1 Try.underlying9 rfl (by with_unfolding_all exact ⟨_, rfl, rfl⟩) (by first | with_unfolding_all rfl | assumption) ?_)) | ((with_reducible refine lst (by with_unfolding_all rfl) (wp_fbsl T_int hF1 (vs := [.int .i64 id, .int .i64 at_, .int .i64 n]) (by with_unfolding_all rfl) (by with_unfolding_all rfl) (by with_unfolding_all rfl) (by decide) (by simp [Value.cells]) ?_)); intro w2 g2 hF2 hz2))
    refine (fits_any _ 3 3 [id, at_, n] w2 (by omega) hF2.rdOwn0).mono ?_
    rintro e w' ⟨rfl, rfl⟩
    rw [hfit.out]
    go_wp2_with (first | (with_reducible refine lst (by with_unfolding_all rfl) (wp_fld1 hF2 Try.underlying23 rfl (by with_unfolding_all exact ⟨_, rfl, rfl⟩) hq.out.2.2.2 ?_)))
    go_ret2
    exact ⟨_, rfl, OwnB.nil _ _ _, hF2.below⟩
  · have hfit' : [id, at_, n].all numB = false := by simpa using hfit
    replace hfit' := box hfit'
    clear hfit kb1 kb2 kb3 kb4
    go_enter Try.func7, Try.ntmps7
    go_wp2_with (first | ((with_reducible refine lst (by with_unfolding_all rfl) (wp_fbox hF0 (cs := (rqL (.int .i64 op) (.string repo) (.string word) (d.map bv) (.int .i64 id) (.int .i64 at_) (.int .i64 n) (.slice A body.length c))) rfl (by with_unfolding_all rfl) (by with_unfolding_all rfl) ?_)); intro w1 g1 hF1 hz1) | (with_reducible refine lst (by with_unfolding_all rfl) (wp_fld0 hF1 Try.underlying3 rfl (by with_unfolding_all exact ⟨_, rfl, rfl⟩) (by first | with_unfolding_all rfl | exact hq.out.1 | exact hq.out.2.1 | exact hq.out.2.2.1) ?_)) | (with_reducible refine lst (by with_unfolding_all rfl) (wp_fld0 hF1 Try.underlying9 rfl (by with_unfolding_all exact ⟨_, rfl, rfl⟩) (by first | with_unfolding_all rfl | assumption) ?_)) | ((with_reducible refine lst (by with_unfolding_all rfl) (wp_fbsl T_int hF1 (vs := [.int .i64 id, .int .i64 at_, .int .i64 n]) (by with_unfolding_all rfl) (by with_unfolding_all rfl) (by with_unfolding_all rfl) (by decide) (by simp [Value.cells]) ?_)); intro w2 g2 hF2 hz2))
    refine (fits_any _ 3 3 [id, at_, n] w2 (by omega) hF2.rdOwn0).mono ?_
    rintro e w' ⟨rfl, rfl⟩
    rw [hfit'.out]
    go_wp2_with (first | (with_reducible refine lst (by with_unfolding_all rfl) (wp_fld1 hF2 Try.underlying23 rfl (by with_unfolding_all exact ⟨_, rfl, rfl⟩) hq.out.2.2.2 ?_)))
    go_ret2
    exact ⟨_, rfl, OwnB.nil _ _ _, hF2.below⟩
theorem encReq_any (r : Req) (A : Option Addr) (c : Nat) (w : World) (hd : r.d.length = 32) (hr : Rd w (· < w.heap.size) A 1 r.body.length (r.body.map bv)) :
    Calls Try.prog 7 #[.agg (r.cells A c).toArray] w (Told w 5 (if reqOk r = true then reqB r else []) (if reqOk r = true then 0 else 1)) := by
  by_cases h : reqOk r = true
  · rw [if_pos h, if_pos h]; exact encReq_good r A c w hd hr h
  · rw [if_neg h, if_neg h]; exact encReq_bad r A c w hd (by simpa using h)
end Go.Proofs.Ytcnjnkkdidpjiaa

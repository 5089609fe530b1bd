/-
  Layer 19: the walk of the document's EncodeRequest.
-/
import Derived.Test.YtcnjnkkdidpjiaaJ09
import Derived.Test.YtcnjnkkdidpjiaaJ06
import Derived.Test.YtcnjnkkdidpjiaaJ07
namespace Go.Proofs.Ytcnjnkkdidpjiaa
open Go.RowKit

set_option maxRecDepth 20000 in
set_option maxHeartbeats 1600000 in
theorem encReqF_any (r : Req) (A : Option Addr) (c : Nat) (w : World) (hd : r.d.length = 32) (hr : Rd w (· < w.heap.size) A 1 r.body.length (r.body.map bv)) :
    Calls Try.prog 9 #[.agg (r.cells A c).toArray] w (Told w 5 (if reqOk r = true then reqB r else []) (if reqOk r = true then 0 else 1)) := by
  obtain ⟨op, repo, word, d, id, at_, n, body⟩ := r
  simp only [Req.cells] at *
  have hdl : (d.map bv).length = 32 := by simpa using hd
  have hq := rqL_at (a := .int .i64 op) (b := .string repo) (c := .string word) (e := .int .i64 id) (f := .int .i64 at_) (g := .int .i64 n) (h := .slice A body.length c) hdl
  replace hq := box hq
  replace hdl := box hdl
  replace hd := box hd
  have hF0 := Fr.nil w
  have hnot : reqOk ⟨op, repo, word, d, id, at_, n, body⟩ = true → Box (1 ≤ op ∧ op ≤ 20 ∧ repo.size ≤ 128 ∧ word.size ≤ 128 ∧ body.length ≤ 1048576 ∧ numB id = true ∧ numB at_ = true ∧ numB n = true) := fun h => box (by have := reqOk_iff h; simpa using this)
  have hyes : Box ((1 ≤ op ∧ op ≤ 20 ∧ repo.size ≤ 128 ∧ word.size ≤ 128 ∧ body.length ≤ 1048576 ∧ numB id = true ∧ numB at_ = true ∧ numB n = true) → reqOk ⟨op, repo, word, d, id, at_, n, body⟩ = true) := box (fun ⟨a, b, c, d, e, f, g, i⟩ => reqOk_of a b c d e f g i)
  replace hnot := box hnot
  by_cases kb1 : op < 1
  · have b1 : decide (op < 1) = true := by simpa using kb1
    have hno : ¬ reqOk ⟨op, repo, word, d, id, at_, n, body⟩ = true := fun h => by have := (hnot.out h).out; omega
    rw [if_neg hno, if_neg hno]
    clear hno
    go_enter Try.func9, Try.ntmps9
    go_wp2_with (first | ((with_reducible refine lst (by with_unfolding_all rfl) (wp_fbox hF0 (cs := (rqL (.int .i64 op) (.string repo) (.string word) (d.map bv) (.int .i64 id) (.int .i64 at_) (.int .i64 n) (.slice A body.length c))) rfl (by with_unfolding_all rfl) (by with_unfolding_all rfl) ?_)); intro w1 g1 hF1 hz1) | (with_reducible refine lst (by with_unfolding_all rfl) (wp_fld0 hF1 Try.underlying3 rfl (by with_unfolding_all exact ⟨_, rfl, rfl⟩) (by first | with_unfolding_all rfl | exact hq.out.1 | exact hq.out.2.1 | exact hq.out.2.2.1) ?_)) | (with_reducible refine lst (by with_unfolding_all rfl) (wp_fld0 hF1 Try.underlying9 rfl (by with_unfolding_all exact ⟨_, rfl, rfl⟩) (by first | with_unfolding_all rfl | assumption) ?_)) | (with_reducible refine lst (by with_unfolding_all rfl) (wp_fld0 hF1 Try.underlying23 rfl (by with_unfolding_all exact ⟨_, rfl, rfl⟩) hq.out.2.2.2 ?_)))
    go_ret2
    exact ⟨_, rfl, OwnB.nil _ _ _, hF1.below⟩
  have b1 : decide (op < 1) = false := by simpa using kb1
  by_cases kb2 : 20 < op
  · have b2 : decide (20 < op) = true := by simpa using kb2
    have hno : ¬ reqOk ⟨op, repo, word, d, id, at_, n, body⟩ = true := fun h => by have := (hnot.out h).out; omega
    rw [if_neg hno, if_neg hno]
    clear hno
    go_enter Try.func9, Try.ntmps9
    go_wp2_with (first | ((with_reducible refine lst (by with_unfolding_all rfl) (wp_fbox hF0 (cs := (rqL (.int .i64 op) (.string repo) (.string word) (d.map bv) (.int .i64 id) (.int .i64 at_) (.int .i64 n) (.slice A body.length c))) rfl (by with_unfolding_all rfl) (by with_unfolding_all rfl) ?_)); intro w1 g1 hF1 hz1) | (with_reducible refine lst (by with_unfolding_all rfl) (wp_fld0 hF1 Try.underlying3 rfl (by with_unfolding_all exact ⟨_, rfl, rfl⟩) (by first | with_unfolding_all rfl | exact hq.out.1 | exact hq.out.2.1 | exact hq.out.2.2.1) ?_)) | (with_reducible refine lst (by with_unfolding_all rfl) (wp_fld0 hF1 Try.underlying9 rfl (by with_unfolding_all exact ⟨_, rfl, rfl⟩) (by first | with_unfolding_all rfl | assumption) ?_)) | (with_reducible refine lst (by with_unfolding_all rfl) (wp_fld0 hF1 Try.underlying23 rfl (by with_unfolding_all exact ⟨_, rfl, rfl⟩) hq.out.2.2.2 ?_)))
    go_ret2
    exact ⟨_, rfl, OwnB.nil _ _ _, hF1.below⟩
  have b2 : decide (20 < op) = false := by simpa using kb2
  by_cases kb3 : 128 < (repo.size : Int)
  · have b3 : decide (128 < (repo.size : Int)) = true := by simpa using kb3
    have hno : ¬ reqOk ⟨op, repo, word, d, id, at_, n, body⟩ = true := fun h => by have := (hnot.out h).out; omega
    rw [if_neg hno, if_neg hno]
    clear hno
    go_enter Try.func9, Try.ntmps9
    go_wp2_with (first | ((with_reducible refine lst (by with_unfolding_all rfl) (wp_fbox hF0 (cs := (rqL (.int .i64 op) (.string repo) (.string word) (d.map bv) (.int .i64 id) (.int .i64 at_) (.int .i64 n) (.slice A body.length c))) rfl (by with_unfolding_all rfl) (by with_unfolding_all rfl) ?_)); intro w1 g1 hF1 hz1) | (with_reducible refine lst (by with_unfolding_all rfl) (wp_fld0 hF1 Try.underlying3 rfl (by with_unfolding_all exact ⟨_, rfl, rfl⟩) (by first | with_unfolding_all rfl | exact hq.out.1 | exact hq.out.2.1 | exact hq.out.2.2.1) ?_)) | (with_reducible refine lst (by with_unfolding_all rfl) (wp_fld0 hF1 Try.underlying9 rfl (by with_unfolding_all exact ⟨_, rfl, rfl⟩) (by first | with_unfolding_all rfl | assumption) ?_)) | (with_reducible refine lst (by with_unfolding_all rfl) (wp_fld0 hF1 Try.underlying23 rfl (by with_unfolding_all exact ⟨_, rfl, rfl⟩) hq.out.2.2.2 ?_)))
    go_ret2
    exact ⟨_, rfl, OwnB.nil _ _ _, hF1.below⟩
  have b3 : decide (128 < (repo.size : Int)) = false := by simpa using kb3
  by_cases kb4 : 128 < (word.size : Int)
  · have b4 : decide (128 < (word.size : Int)) = true := by simpa using kb4
    have hno : ¬ reqOk ⟨op, repo, word, d, id, at_, n, body⟩ = true := fun h => by have := (hnot.out h).out; omega
    rw [if_neg hno, if_neg hno]
    clear hno
    go_enter Try.func9, Try.ntmps9
    go_wp2_with (first | ((with_reducible refine lst (by with_unfolding_all rfl) (wp_fbox hF0 (cs := (rqL (.int .i64 op) (.string repo) (.string word) (d.map bv) (.int .i64 id) (.int .i64 at_) (.int .i64 n) (.slice A body.length c))) rfl (by with_unfolding_all rfl) (by with_unfolding_all rfl) ?_)); intro w1 g1 hF1 hz1) | (with_reducible refine lst (by with_unfolding_all rfl) (wp_fld0 hF1 Try.underlying3 rfl (by with_unfolding_all exact ⟨_, rfl, rfl⟩) (by first | with_unfolding_all rfl | exact hq.out.1 | exact hq.out.2.1 | exact hq.out.2.2.1) ?_)) | (with_reducible refine lst (by with_unfolding_all rfl) (wp_fld0 hF1 Try.underlying9 rfl (by with_unfolding_all exact ⟨_, rfl, rfl⟩) (by first | with_unfolding_all rfl | assumption) ?_)) | (with_reducible refine lst (by with_unfolding_all rfl) (wp_fld0 hF1 Try.underlying23 rfl (by with_unfolding_all exact ⟨_, rfl, rfl⟩) hq.out.2.2.2 ?_)))
    go_ret2
    exact ⟨_, rfl, OwnB.nil _ _ _, hF1.below⟩
  have b4 : decide (128 < (word.size : Int)) = false := by simpa using kb4
  by_cases kb5 : 1048576 < (body.length : Int)
  · have b5 : decide (1048576 < (body.length : Int)) = true := by simpa using kb5
    have hno : ¬ reqOk ⟨op, repo, word, d, id, at_, n, body⟩ = true := fun h => by have := (hnot.out h).out; omega
    rw [if_neg hno, if_neg hno]
    clear hno
    go_enter Try.func9, Try.ntmps9
    go_wp2_with (first | ((with_reducible refine lst (by with_unfolding_all rfl) (wp_fbox hF0 (cs := (rqL (.int .i64 op) (.string repo) (.string word) (d.map bv) (.int .i64 id) (.int .i64 at_) (.int .i64 n) (.slice A body.length c))) rfl (by with_unfolding_all rfl) (by with_unfolding_all rfl) ?_)); intro w1 g1 hF1 hz1) | (with_reducible refine lst (by with_unfolding_all rfl) (wp_fld0 hF1 Try.underlying3 rfl (by with_unfolding_all exact ⟨_, rfl, rfl⟩) (by first | with_unfolding_all rfl | exact hq.out.1 | exact hq.out.2.1 | exact hq.out.2.2.1) ?_)) | (with_reducible refine lst (by with_unfolding_all rfl) (wp_fld0 hF1 Try.underlying9 rfl (by with_unfolding_all exact ⟨_, rfl, rfl⟩) (by first | with_unfolding_all rfl | assumption) ?_)) | (with_reducible refine lst (by with_unfolding_all rfl) (wp_fld0 hF1 Try.underlying23 rfl (by with_unfolding_all exact ⟨_, rfl, rfl⟩) hq.out.2.2.2 ?_)))
    go_ret2
    exact ⟨_, rfl, OwnB.nil _ _ _, hF1.below⟩
  have b5 : decide (1048576 < (body.length : Int)) = false := by simpa using kb5
  by_cases nid : numB id = true
  rotate_left
  · have nid' : numB id = false := by simpa using nid
    have hno : ¬ reqOk ⟨op, repo, word, d, id, at_, n, body⟩ = true := fun h => by have h2 := (hnot.out h).out; exact nid h2.2.2.2.2.2.1
    rw [if_neg hno, if_neg hno]
    clear hno nid
    go_enter Try.func9, Try.ntmps9
    go_wp2_with (first | ((with_reducible refine lst (by with_unfolding_all rfl) (wp_fbox hF0 (cs := (rqL (.int .i64 op) (.string repo) (.string word) (d.map bv) (.int .i64 id) (.int .i64 at_) (.int .i64 n) (.slice A body.length c))) rfl (by with_unfolding_all rfl) (by with_unfolding_all rfl) ?_)); intro w1 g1 hF1 hz1) | (with_reducible refine lst (by with_unfolding_all rfl) (wp_fld0 hF1 Try.underlying3 rfl (by with_unfolding_all exact ⟨_, rfl, rfl⟩) (by first | with_unfolding_all rfl | exact hq.out.1 | exact hq.out.2.1 | exact hq.out.2.2.1) ?_)) | (with_reducible refine lst (by with_unfolding_all rfl) (wp_fld0 hF1 Try.underlying9 rfl (by with_unfolding_all exact ⟨_, rfl, rfl⟩) (by first | with_unfolding_all rfl | assumption) ?_)) | (with_reducible refine lst (by with_unfolding_all rfl) (wp_fld0 hF1 Try.underlying23 rfl (by with_unfolding_all exact ⟨_, rfl, rfl⟩) hq.out.2.2.2 ?_)) | (go_at_call 27; refine (number_any _ _).mono ?_; rintro e w' ⟨rfl, rfl⟩))
    go_ret2
    exact ⟨_, rfl, OwnB.nil _ _ _, hF1.below⟩
  by_cases nat : numB at_ = true
  rotate_left
  · have nat' : numB at_ = false := by simpa using nat
    have hno : ¬ reqOk ⟨op, repo, word, d, id, at_, n, body⟩ = true := fun h => by have h2 := (hnot.out h).out; exact nat h2.2.2.2.2.2.2.1
    rw [if_neg hno, if_neg hno]
    clear hno nat
    go_enter Try.func9, Try.ntmps9
    go_wp2_with (first | ((with_reducible refine lst (by with_unfolding_all rfl) (wp_fbox hF0 (cs := (rqL (.int .i64 op) (.string repo) (.string word) (d.map bv) (.int .i64 id) (.int .i64 at_) (.int .i64 n) (.slice A body.length c))) rfl (by with_unfolding_all rfl) (by with_unfolding_all rfl) ?_)); intro w1 g1 hF1 hz1) | (with_reducible refine lst (by with_unfolding_all rfl) (wp_fld0 hF1 Try.underlying3 rfl (by with_unfolding_all exact ⟨_, rfl, rfl⟩) (by first | with_unfolding_all rfl | exact hq.out.1 | exact hq.out.2.1 | exact hq.out.2.2.1) ?_)) | (with_reducible refine lst (by with_unfolding_all rfl) (wp_fld0 hF1 Try.underlying9 rfl (by with_unfolding_all exact ⟨_, rfl, rfl⟩) (by first | with_unfolding_all rfl | assumption) ?_)) | (with_reducible refine lst (by with_unfolding_all rfl) (wp_fld0 hF1 Try.underlying23 rfl (by with_unfolding_all exact ⟨_, rfl, rfl⟩) hq.out.2.2.2 ?_)) | (go_at_call 27; refine (number_any _ _).mono ?_; rintro e w' ⟨rfl, rfl⟩))
    go_ret2
    exact ⟨_, rfl, OwnB.nil _ _ _, hF1.below⟩
  by_cases nn : numB n = true
  rotate_left
  · have nn' : numB n = false := by simpa using nn
    have hno : ¬ reqOk ⟨op, repo, word, d, id, at_, n, body⟩ = true := fun h => by have h2 := (hnot.out h).out; exact nn h2.2.2.2.2.2.2.2
    rw [if_neg hno, if_neg hno]
    clear hno nn
    go_enter Try.func9, Try.ntmps9
    go_wp2_with (first | ((with_reducible refine lst (by with_unfolding_all rfl) (wp_fbox hF0 (cs := (rqL (.int .i64 op) (.string repo) (.string word) (d.map bv) (.int .i64 id) (.int .i64 at_) (.int .i64 n) (.slice A body.length c))) rfl (by with_unfolding_all rfl) (by with_unfolding_all rfl) ?_)); intro w1 g1 hF1 hz1) | (with_reducible refine lst (by with_unfolding_all rfl) (wp_fld0 hF1 Try.underlying3 rfl (by with_unfolding_all exact ⟨_, rfl, rfl⟩) (by first | with_unfolding_all rfl | exact hq.out.1 | exact hq.out.2.1 | exact hq.out.2.2.1) ?_)) | (with_reducible refine lst (by with_unfolding_all rfl) (wp_fld0 hF1 Try.underlying9 rfl (by with_unfolding_all exact ⟨_, rfl, rfl⟩) (by first | with_unfolding_all rfl | assumption) ?_)) | (with_reducible refine lst (by with_unfolding_all rfl) (wp_fld0 hF1 Try.underlying23 rfl (by with_unfolding_all exact ⟨_, rfl, rfl⟩) hq.out.2.2.2 ?_)) | (go_at_call 27; refine (number_any _ _).mono ?_; rintro e w' ⟨rfl, rfl⟩))
    go_ret2
    exact ⟨_, rfl, OwnB.nil _ _ _, hF1.below⟩
  have hok := hyes.out ⟨by omega, by omega, by omega, by omega, by omega, nid, nat, nn⟩
  rw [if_pos hok, if_pos hok]
  clear hok
  have h6' := numB_iff nid
  have h7' := numB_iff nat
  have h8' := numB_iff nn
  obtain ⟨x, hx⟩ := byte_of (q := op) (by omega) (by omega)
  subst hx
  have hxw : IntKind.u8.wrap (x.toNat : Int) = (x.toNat : Int) := IntWalk.u8_in _ (by omega)
  obtain ⟨i1, rfl⟩ := Int.eq_ofNat_of_zero_le h6'.1
  obtain ⟨i2, rfl⟩ := Int.eq_ofNat_of_zero_le h7'.1
  obtain ⟨i3, rfl⟩ := Int.eq_ofNat_of_zero_le h8'.1
  have hT := textL_len repo.data.toList (by rw [str_len]; omega)
  have hT2 := textL_len word.data.toList (by rw [str_len]; omega)
  rw [str_len] at hT hT2
  have hT3 := textL_len body (by omega)
  have k1 := cnt_len64 (n := i1) (by omega)
  have k2 := cnt_len64 (n := i2) (by omega)
  have k3 := cnt_len64 (n := i3) (by omega)
  have q1 : Box (i1 < 18446744073709551616) := box (by omega)
  have q2 : Box (i2 < 18446744073709551616) := box (by omega)
  have q3 : Box (i3 < 18446744073709551616) := box (by omega)
  have hdd := hd.out
  have R1 : ([x] : List UInt8).length + (textL repo.data.toList).length ≤ 140737488355328 := by simp only [List.length_cons, List.length_nil]; omega
  have R2 : ([x] ++ textL repo.data.toList).length + (textL word.data.toList).length ≤ 140737488355328 := by simp only [List.length_append, List.length_cons, List.length_nil]; omega
  have R3 : ([x] ++ textL repo.data.toList ++ textL word.data.toList).length ≤ 100000000 := by simp only [List.length_append, List.length_cons, List.length_nil]; omega
  have R4 : ([x] ++ textL repo.data.toList ++ textL word.data.toList ++ d).length + (cnt i1).length ≤ 140737488355328 := by simp only [List.length_append, List.length_cons, List.length_nil]; omega
  have R5 : ([x] ++ textL repo.data.toList ++ textL word.data.toList ++ d ++ cnt i1).length + (cnt i2).length ≤ 140737488355328 := by simp only [List.length_append, List.length_cons, List.length_nil]; omega
  have R6 : ([x] ++ textL repo.data.toList ++ textL word.data.toList ++ d ++ cnt i1 ++ cnt i2).length + (cnt i3).length ≤ 140737488355328 := by simp only [List.length_append, List.length_cons, List.length_nil]; omega
  have R7 : ([x] ++ textL repo.data.toList ++ textL word.data.toList ++ d ++ cnt i1 ++ cnt i2 ++ cnt i3).length + (textL body).length ≤ 140737488355328 := by simp only [List.length_append, List.length_cons, List.length_nil]; omega
  clear hdd kb1 kb2
  replace nid := box nid
  replace nat := box nat
  replace nn := box nn
  go_enter Try.func9, Try.ntmps9
  go_wp2_with (first | ((with_reducible refine lst (by with_unfolding_all rfl) (wp_fbox hF0 (cs := (rqL (.int .i64 (x.toNat : Int)) (.string repo) (.string word) (d.map bv) (.int .i64 (i1 : Int)) (.int .i64 (i2 : Int)) (.int .i64 (i3 : Int)) (.slice A body.length c))) rfl (by with_unfolding_all rfl) (by with_unfolding_all rfl) ?_)); intro w1 g1 hF1 hz1) | (with_reducible refine lst (by with_unfolding_all rfl) (wp_fld0 hF1 Try.underlying3 rfl (by with_unfolding_all exact ⟨_, rfl, rfl⟩) (by first | with_unfolding_all rfl | exact hq.out.1 | exact hq.out.2.1 | exact hq.out.2.2.1) ?_)) | (with_reducible refine lst (by with_unfolding_all rfl) (wp_fld0 hF1 Try.underlying9 rfl (by with_unfolding_all exact ⟨_, rfl, rfl⟩) (by first | with_unfolding_all rfl | assumption) ?_)) | (with_reducible refine lst (by with_unfolding_all rfl) (wp_fld0 hF1 Try.underlying23 rfl (by with_unfolding_all exact ⟨_, rfl, rfl⟩) hq.out.2.2.2 ?_)) | (go_at_call 27; refine (number_any _ _).mono ?_; rintro e w' ⟨rfl, rfl⟩; first | rw [nid.out] | rw [nat.out] | rw [nn.out]) | ((with_reducible refine lst (by with_unfolding_all rfl) (wp_fbsl T_u8 hF1 (vs := [bv x]) (by with_unfolding_all rfl) (by with_unfolding_all rfl) (by with_unfolding_all rfl) (by decide) (by simp [bv, Value.cells]) ?_)); intro w2 g2 hF2 hz2; have hr2 : Rd w2 (· < w2.heap.size) (some ⟨g2, 0, none⟩) 1 1 ([x].map bv) := hF2.rdOwn0; replace hF2 : Fr _ _ w2 (Ent.bytes _ 5 (.slice (some ⟨g2, 0, none⟩) 1 1) [x] :: _) := hF2) | (with_reducible refine lst (by with_unfolding_all rfl) (wp_fld1 hF2 Try.underlying9 rfl (by with_unfolding_all exact ⟨_, rfl, rfl⟩) (by first | with_unfolding_all rfl | assumption) ?_)) | ((with_reducible refine lst (by with_unfolding_all rfl) (wp_fs2b T_u8 Try.underlying5 Try.underlying9 hF2 (by with_unfolding_all exact ⟨_, rfl, rfl⟩) ?_)); intro w3 g3 c3 hF3 hz3 hc3))
  refine (rtext_any _ _ _ repo.data.toList _ (by omega) hF3.rd0).mono ?_
  rintro e w4 ⟨v4, rfl, ho4, hb4⟩
  obtain ⟨A4, c4, rfl, _, hr4⟩ := ho4.arg
  have hF4 := hF3.tail.call hb4
  go_wp2_with (first | ((with_reducible refine lst (by with_unfolding_all rfl) (wp_fapp0 T_u8 hF4 (Nat.le_refl _) hr4 (by with_unfolding_all exact ⟨_, _, rfl, rfl, rfl⟩) R1 ?_)); intro v5 w5 hF5 hz5) | (with_reducible refine lst (by with_unfolding_all rfl) (wp_fld1 hF5 Try.underlying9 rfl (by with_unfolding_all exact ⟨_, rfl, rfl⟩) (by first | with_unfolding_all rfl | assumption) ?_)) | ((with_reducible refine lst (by with_unfolding_all rfl) (wp_fs2b T_u8 Try.underlying5 Try.underlying9 hF5 (by with_unfolding_all exact ⟨_, rfl, rfl⟩) ?_)); intro w6 g6 c6 hF6 hz6 hc6))
  refine (rtext_any _ _ _ word.data.toList _ (by omega) hF6.rd0).mono ?_
  rintro e w7 ⟨v7, rfl, ho7, hb7⟩
  obtain ⟨A7, c7, rfl, _, hr7⟩ := ho7.arg
  have hF7 := hF6.tail.call hb7
  go_wp2_with (first | ((with_reducible refine lst (by with_unfolding_all rfl) (wp_fapp0 T_u8 hF7 (Nat.le_refl _) hr7 (by with_unfolding_all exact ⟨_, _, rfl, rfl, rfl⟩) R2 ?_)); intro v8 w8 hF8 hz8) | (with_reducible refine lst (by with_unfolding_all rfl) (wp_fldA1 hF8 Try.underlying22 rfl (by with_unfolding_all exact ⟨_, rfl, rfl⟩) (ds := (d.map bv)) (by rw [hdl.out]; kernel_rfl) (rqL_dig rfl) ?_)))
  refine (sumF_any w.heap.size v8 _ d w8 hF8.bytes0 hF8.size R3 hd.out).mono ?_
  rintro e w9 ⟨v9, rfl, ho9, hg9, hv9⟩
  have hF9 := hF8.putB0 hg9 ho9 hv9.out
  go_wp2_with (first | (with_reducible refine lst (by with_unfolding_all rfl) (wp_fld1 hF9 Try.underlying3 rfl (by with_unfolding_all exact ⟨_, rfl, rfl⟩) hq.out.1 ?_)))
  refine (rcount_any i1 w9 q1).mono ?_
  rintro e w10 ⟨v10, rfl, ho10, hb10⟩
  obtain ⟨A10, c10, rfl, _, hr10⟩ := ho10.arg
  have hF10 := hF9.call hb10
  go_wp2_with (first | ((with_reducible refine lst (by with_unfolding_all rfl) (wp_fapp0 T_u8 hF10 (Nat.le_refl _) hr10 (by with_unfolding_all exact ⟨_, _, rfl, rfl, rfl⟩) R4 ?_)); intro v11 w11 hF11 hz11) | (with_reducible refine lst (by with_unfolding_all rfl) (wp_fld1 hF11 Try.underlying3 rfl (by with_unfolding_all exact ⟨_, rfl, rfl⟩) hq.out.2.1 ?_)))
  refine (rcount_any i2 w11 q2).mono ?_
  rintro e w12 ⟨v12, rfl, ho12, hb12⟩
  obtain ⟨A12, c12, rfl, _, hr12⟩ := ho12.arg
  have hF12 := hF11.call hb12
  go_wp2_with (first | ((with_reducible refine lst (by with_unfolding_all rfl) (wp_fapp0 T_u8 hF12 (Nat.le_refl _) hr12 (by with_unfolding_all exact ⟨_, _, rfl, rfl, rfl⟩) R5 ?_)); intro v13 w13 hF13 hz13) | (with_reducible refine lst (by with_unfolding_all rfl) (wp_fld1 hF13 Try.underlying3 rfl (by with_unfolding_all exact ⟨_, rfl, rfl⟩) hq.out.2.2.1 ?_)))
  refine (rcount_any i3 w13 q3).mono ?_
  rintro e w14 ⟨v14, rfl, ho14, hb14⟩
  obtain ⟨A14, c14, rfl, _, hr14⟩ := ho14.arg
  have hF14 := hF13.call hb14
  go_wp2_with (first | ((with_reducible refine lst (by with_unfolding_all rfl) (wp_fapp0 T_u8 hF14 (Nat.le_refl _) hr14 (by with_unfolding_all exact ⟨_, _, rfl, rfl, rfl⟩) R6 ?_)); intro v15 w15 hF15 hz15) | (with_reducible refine lst (by with_unfolding_all rfl) (wp_fld1 hF15 Try.underlying23 rfl (by with_unfolding_all exact ⟨_, rfl, rfl⟩) hq.out.2.2.2 ?_)))
  refine (rtext_any A body.length c body w15 (by omega) (hF15.rdOld hr)).mono ?_
  rintro e w16 ⟨v16, rfl, ho16, hb16⟩
  obtain ⟨A16, c16, rfl, _, hr16⟩ := ho16.arg
  have hF16 := hF15.call hb16
  go_wp2_with (first | ((with_reducible refine lst (by with_unfolding_all rfl) (wp_fapp0 T_u8 hF16 (Nat.le_refl _) hr16 (by with_unfolding_all exact ⟨_, _, rfl, rfl, rfl⟩) R7 ?_)); intro v17 w17 hF17 hz17))
  go_ret2
  refine ⟨v17, rfl, ?_, hF17.below⟩
  have hfin : reqB ⟨(x.toNat : Int), repo, word, d, i1, i2, i3, body⟩ = [x] ++ textL repo.data.toList ++ textL word.data.toList ++ d ++ cnt i1 ++ cnt i2 ++ cnt i3 ++ textL body := by
    simp [reqB]
  rw [hfin]
  exact hF17.bytes0
end Go.Proofs.Ytcnjnkkdidpjiaa

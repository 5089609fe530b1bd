/-
  Layer 19: the walk of the document's EncodeReply.
  Frames of known blocks, joined: what a call hands back in blocks of its own. No program is named here.
-/
import Derived.Test.YtcnjnkkdidpjiaaJ09
import Derived.Test.YtcnjnkkdidpjiaaJ07
namespace Go.Proofs.Ytcnjnkkdidpjiaa
open Go.RowKit

set_option maxRecDepth 20000 in
set_option maxHeartbeats 3200000 in
theorem encRepF_any (r : Rep) (A B C : Option Addr) (c cb cc : Nat) (w : World) (hR : RepRd w r A B C) :
    Calls Try.prog 19 #[.agg (r.cells A B C c cb cc).toArray] w (Told w 5 (if repOk r = true then repB r else []) (if repOk r = true then 0 else 1)) := by
  obtain ⟨code, d, n, m, body, words, sums⟩ := r
  obtain ⟨hd, hr, hrw, hrs, hs32⟩ := hR
  simp only [Rep.cells] at *
  have hdl : (d.map bv).length = 32 := by simpa using hd
  have hq := rpL_at (a := (Value.int .i64) code) (e := (Value.int .i64) n) (f := (Value.int .i64) m) (g := .slice A body.length c) (h := .slice B words.length cb) (i := .slice C sums.length cc) hdl
  replace hq := box hq
  replace hdl := box hdl
  replace hd := box hd
  replace hs32 := box hs32
  have hF0 := Fr.nil w
  have hnot : Box (repOk ⟨code, d, n, m, body, words, sums⟩ = true → 0 ≤ code ∧ code ≤ 255 ∧ numB n = true ∧ numB m = true ∧ body.length ≤ 1048576 ∧ words.length ≤ 100 ∧ sums.length ≤ 4096 ∧ words.all wordOk = true) := box fun h => by
    have := repOk_iff h
    simpa using this
  by_cases kb1 : code < 0
  · have b1 : decide (code < 0) = true := by simpa using kb1
    have hno : ¬ repOk ⟨code, d, n, m, body, words, sums⟩ = true := fun h => by have h2 := hnot.out h; omega
    rw [if_neg hno, if_neg hno]
    clear hno
    go_enter Try.func19, Try.ntmps19
    go_wp2_with (first | ((with_reducible refine lst (by with_unfolding_all rfl) (wp_fbox hF0 (cs := (rpL (.int .i64 code) (d.map bv) (.int .i64 n) (.int .i64 m) (.slice A body.length c) (.slice B words.length cb) (.slice C sums.length cc))) rfl (by with_unfolding_all rfl) (by with_unfolding_all rfl) ?_)); intro w1 g1 hF1 hz1) | (with_reducible refine lst (by with_unfolding_all rfl) (wp_fld0 hF1 Try.underlying3 rfl (by with_unfolding_all exact ⟨_, rfl, rfl⟩) (by first | with_unfolding_all rfl | exact hq.out.1 | exact hq.out.2.1) ?_)) | (with_reducible refine lst (by with_unfolding_all rfl) (wp_fld0 hF1 Try.underlying23 rfl (by with_unfolding_all exact ⟨_, rfl, rfl⟩) hq.out.2.2.1 ?_)) | (with_reducible refine lst (by with_unfolding_all rfl) (wp_fld0 hF1 Try.underlying44 rfl (by with_unfolding_all exact ⟨_, rfl, rfl⟩) hq.out.2.2.2.1 ?_)) | (with_reducible refine lst (by with_unfolding_all rfl) (wp_fld0 hF1 Try.underlying45 rfl (by with_unfolding_all exact ⟨_, rfl, rfl⟩) hq.out.2.2.2.2 ?_)) | (go_at_call 27; refine (number_any _ _).mono ?_; rintro e w' ⟨rfl, rfl⟩))
    go_ret2
    exact ⟨_, rfl, OwnB.nil _ _ _, hF1.below⟩
  have b1 : decide (code < 0) = false := by simpa using kb1
  by_cases kb2 : 255 < code
  · have b2 : decide (255 < code) = true := by simpa using kb2
    have hno : ¬ repOk ⟨code, d, n, m, body, words, sums⟩ = true := fun h => by have h2 := hnot.out h; omega
    rw [if_neg hno, if_neg hno]
    clear hno
    go_enter Try.func19, Try.ntmps19
    go_wp2_with (first | ((with_reducible refine lst (by with_unfolding_all rfl) (wp_fbox hF0 (cs := (rpL (.int .i64 code) (d.map bv) (.int .i64 n) (.int .i64 m) (.slice A body.length c) (.slice B words.length cb) (.slice C sums.length cc))) rfl (by with_unfolding_all rfl) (by with_unfolding_all rfl) ?_)); intro w1 g1 hF1 hz1) | (with_reducible refine lst (by with_unfolding_all rfl) (wp_fld0 hF1 Try.underlying3 rfl (by with_unfolding_all exact ⟨_, rfl, rfl⟩) (by first | with_unfolding_all rfl | exact hq.out.1 | exact hq.out.2.1) ?_)) | (with_reducible refine lst (by with_unfolding_all rfl) (wp_fld0 hF1 Try.underlying23 rfl (by with_unfolding_all exact ⟨_, rfl, rfl⟩) hq.out.2.2.1 ?_)) | (with_reducible refine lst (by with_unfolding_all rfl) (wp_fld0 hF1 Try.underlying44 rfl (by with_unfolding_all exact ⟨_, rfl, rfl⟩) hq.out.2.2.2.1 ?_)) | (with_reducible refine lst (by with_unfolding_all rfl) (wp_fld0 hF1 Try.underlying45 rfl (by with_unfolding_all exact ⟨_, rfl, rfl⟩) hq.out.2.2.2.2 ?_)) | (go_at_call 27; refine (number_any _ _).mono ?_; rintro e w' ⟨rfl, rfl⟩))
    go_ret2
    exact ⟨_, rfl, OwnB.nil _ _ _, hF1.below⟩
  have b2 : decide (255 < code) = false := by simpa using kb2
  by_cases nn : numB n = true
  rotate_left
  · have nn' : numB n = false := by simpa using nn
    have hno : ¬ repOk ⟨code, d, n, m, body, words, sums⟩ = true := fun h => by have h2 := hnot.out h; exact nn h2.2.2.1
    rw [if_neg hno, if_neg hno]
    clear hno nn
    go_enter Try.func19, Try.ntmps19
    go_wp2_with (first | ((with_reducible refine lst (by with_unfolding_all rfl) (wp_fbox hF0 (cs := (rpL (.int .i64 code) (d.map bv) (.int .i64 n) (.int .i64 m) (.slice A body.length c) (.slice B words.length cb) (.slice C sums.length cc))) rfl (by with_unfolding_all rfl) (by with_unfolding_all rfl) ?_)); intro w1 g1 hF1 hz1) | (with_reducible refine lst (by with_unfolding_all rfl) (wp_fld0 hF1 Try.underlying3 rfl (by with_unfolding_all exact ⟨_, rfl, rfl⟩) (by first | with_unfolding_all rfl | exact hq.out.1 | exact hq.out.2.1) ?_)) | (with_reducible refine lst (by with_unfolding_all rfl) (wp_fld0 hF1 Try.underlying23 rfl (by with_unfolding_all exact ⟨_, rfl, rfl⟩) hq.out.2.2.1 ?_)) | (with_reducible refine lst (by with_unfolding_all rfl) (wp_fld0 hF1 Try.underlying44 rfl (by with_unfolding_all exact ⟨_, rfl, rfl⟩) hq.out.2.2.2.1 ?_)) | (with_reducible refine lst (by with_unfolding_all rfl) (wp_fld0 hF1 Try.underlying45 rfl (by with_unfolding_all exact ⟨_, rfl, rfl⟩) hq.out.2.2.2.2 ?_)) | (go_at_call 27; refine (number_any _ _).mono ?_; rintro e w' ⟨rfl, rfl⟩))
    go_ret2
    exact ⟨_, rfl, OwnB.nil _ _ _, hF1.below⟩
  have nnb := box nn
  by_cases nm : numB m = true
  rotate_left
  · have nm' : numB m = false := by simpa using nm
    have hno : ¬ repOk ⟨code, d, n, m, body, words, sums⟩ = true := fun h => by have h2 := hnot.out h; exact nm h2.2.2.2.1
    rw [if_neg hno, if_neg hno]
    clear hno nn nm
    go_enter Try.func19, Try.ntmps19
    go_wp2_with (first | ((with_reducible refine lst (by with_unfolding_all rfl) (wp_fbox hF0 (cs := (rpL (.int .i64 code) (d.map bv) (.int .i64 n) (.int .i64 m) (.slice A body.length c) (.slice B words.length cb) (.slice C sums.length cc))) rfl (by with_unfolding_all rfl) (by with_unfolding_all rfl) ?_)); intro w1 g1 hF1 hz1) | (with_reducible refine lst (by with_unfolding_all rfl) (wp_fld0 hF1 Try.underlying3 rfl (by with_unfolding_all exact ⟨_, rfl, rfl⟩) (by first | with_unfolding_all rfl | exact hq.out.1 | exact hq.out.2.1) ?_)) | (with_reducible refine lst (by with_unfolding_all rfl) (wp_fld0 hF1 Try.underlying23 rfl (by with_unfolding_all exact ⟨_, rfl, rfl⟩) hq.out.2.2.1 ?_)) | (with_reducible refine lst (by with_unfolding_all rfl) (wp_fld0 hF1 Try.underlying44 rfl (by with_unfolding_all exact ⟨_, rfl, rfl⟩) hq.out.2.2.2.1 ?_)) | (with_reducible refine lst (by with_unfolding_all rfl) (wp_fld0 hF1 Try.underlying45 rfl (by with_unfolding_all exact ⟨_, rfl, rfl⟩) hq.out.2.2.2.2 ?_)) | (go_at_call 27; refine (number_any _ _).mono ?_; rintro e w' ⟨rfl, rfl⟩; first | rw [nnb.out] | rw [nm']))
    go_ret2
    exact ⟨_, rfl, OwnB.nil _ _ _, hF1.below⟩
  have nmb := box nm
  by_cases kb3 : 1048576 < (body.length : Int)
  · have b3 : decide (1048576 < (body.length : Int)) = true := by simpa using kb3
    have hno : ¬ repOk ⟨code, d, n, m, body, words, sums⟩ = true := fun h => by have h2 := hnot.out h; omega
    rw [if_neg hno, if_neg hno]
    clear hno
    clear nn nm
    go_enter Try.func19, Try.ntmps19
    go_wp2_with (first | ((with_reducible refine lst (by with_unfolding_all rfl) (wp_fbox hF0 (cs := (rpL (.int .i64 code) (d.map bv) (.int .i64 n) (.int .i64 m) (.slice A body.length c) (.slice B words.length cb) (.slice C sums.length cc))) rfl (by with_unfolding_all rfl) (by with_unfolding_all rfl) ?_)); intro w1 g1 hF1 hz1) | (with_reducible refine lst (by with_unfolding_all rfl) (wp_fld0 hF1 Try.underlying3 rfl (by with_unfolding_all exact ⟨_, rfl, rfl⟩) (by first | with_unfolding_all rfl | exact hq.out.1 | exact hq.out.2.1) ?_)) | (with_reducible refine lst (by with_unfolding_all rfl) (wp_fld0 hF1 Try.underlying23 rfl (by with_unfolding_all exact ⟨_, rfl, rfl⟩) hq.out.2.2.1 ?_)) | (with_reducible refine lst (by with_unfolding_all rfl) (wp_fld0 hF1 Try.underlying44 rfl (by with_unfolding_all exact ⟨_, rfl, rfl⟩) hq.out.2.2.2.1 ?_)) | (with_reducible refine lst (by with_unfolding_all rfl) (wp_fld0 hF1 Try.underlying45 rfl (by with_unfolding_all exact ⟨_, rfl, rfl⟩) hq.out.2.2.2.2 ?_)) | (go_at_call 27; refine (number_any _ _).mono ?_; rintro e w' ⟨rfl, rfl⟩; first | rw [nnb.out] | rw [nmb.out]))
    go_ret2
    exact ⟨_, rfl, OwnB.nil _ _ _, hF1.below⟩
  have b3 : decide (1048576 < (body.length : Int)) = false := by simpa using kb3
  by_cases kb4 : 100 < (words.length : Int)
  · have b4 : decide (100 < (words.length : Int)) = true := by simpa using kb4
    have hno : ¬ repOk ⟨code, d, n, m, body, words, sums⟩ = true := fun h => by have h2 := hnot.out h; omega
    rw [if_neg hno, if_neg hno]
    clear hno
    clear nn nm
    go_enter Try.func19, Try.ntmps19
    go_wp2_with (first | ((with_reducible refine lst (by with_unfolding_all rfl) (wp_fbox hF0 (cs := (rpL (.int .i64 code) (d.map bv) (.int .i64 n) (.int .i64 m) (.slice A body.length c) (.slice B words.length cb) (.slice C sums.length cc))) rfl (by with_unfolding_all rfl) (by with_unfolding_all rfl) ?_)); intro w1 g1 hF1 hz1) | (with_reducible refine lst (by with_unfolding_all rfl) (wp_fld0 hF1 Try.underlying3 rfl (by with_unfolding_all exact ⟨_, rfl, rfl⟩) (by first | with_unfolding_all rfl | exact hq.out.1 | exact hq.out.2.1) ?_)) | (with_reducible refine lst (by with_unfolding_all rfl) (wp_fld0 hF1 Try.underlying23 rfl (by with_unfolding_all exact ⟨_, rfl, rfl⟩) hq.out.2.2.1 ?_)) | (with_reducible refine lst (by with_unfolding_all rfl) (wp_fld0 hF1 Try.underlying44 rfl (by with_unfolding_all exact ⟨_, rfl, rfl⟩) hq.out.2.2.2.1 ?_)) | (with_reducible refine lst (by with_unfolding_all rfl) (wp_fld0 hF1 Try.underlying45 rfl (by with_unfolding_all exact ⟨_, rfl, rfl⟩) hq.out.2.2.2.2 ?_)) | (go_at_call 27; refine (number_any _ _).mono ?_; rintro e w' ⟨rfl, rfl⟩; first | rw [nnb.out] | rw [nmb.out]))
    go_ret2
    exact ⟨_, rfl, OwnB.nil _ _ _, hF1.below⟩
  have b4 : decide (100 < (words.length : Int)) = false := by simpa using kb4
  by_cases kb5 : 4096 < (sums.length : Int)
  · have b5 : decide (4096 < (sums.length : Int)) = true := by simpa using kb5
    have hno : ¬ repOk ⟨code, d, n, m, body, words, sums⟩ = true := fun h => by have h2 := hnot.out h; omega
    rw [if_neg hno, if_neg hno]
    clear hno
    clear nn nm
    go_enter Try.func19, Try.ntmps19
    go_wp2_with (first | ((with_reducible refine lst (by with_unfolding_all rfl) (wp_fbox hF0 (cs := (rpL (.int .i64 code) (d.map bv) (.int .i64 n) (.int .i64 m) (.slice A body.length c) (.slice B words.length cb) (.slice C sums.length cc))) rfl (by with_unfolding_all rfl) (by with_unfolding_all rfl) ?_)); intro w1 g1 hF1 hz1) | (with_reducible refine lst (by with_unfolding_all rfl) (wp_fld0 hF1 Try.underlying3 rfl (by with_unfolding_all exact ⟨_, rfl, rfl⟩) (by first | with_unfolding_all rfl | exact hq.out.1 | exact hq.out.2.1) ?_)) | (with_reducible refine lst (by with_unfolding_all rfl) (wp_fld0 hF1 Try.underlying23 rfl (by with_unfolding_all exact ⟨_, rfl, rfl⟩) hq.out.2.2.1 ?_)) | (with_reducible refine lst (by with_unfolding_all rfl) (wp_fld0 hF1 Try.underlying44 rfl (by with_unfolding_all exact ⟨_, rfl, rfl⟩) hq.out.2.2.2.1 ?_)) | (with_reducible refine lst (by with_unfolding_all rfl) (wp_fld0 hF1 Try.underlying45 rfl (by with_unfolding_all exact ⟨_, rfl, rfl⟩) hq.out.2.2.2.2 ?_)) | (go_at_call 27; refine (number_any _ _).mono ?_; rintro e w' ⟨rfl, rfl⟩; first | rw [nnb.out] | rw [nmb.out]))
    go_ret2
    exact ⟨_, rfl, OwnB.nil _ _ _, hF1.below⟩
  have b5 : decide (4096 < (sums.length : Int)) = false := by simpa using kb5
  obtain ⟨L0, hL0⟩ : ∃ L0, L0 = (if repOk ⟨code, d, n, m, body, words, sums⟩ = true then repB ⟨code, d, n, m, body, words, sums⟩ else []) := ⟨_, rfl⟩
  obtain ⟨E0, hE0⟩ : ∃ E0, E0 = (if repOk ⟨code, d, n, m, body, words, sums⟩ = true then (0 : Int) else 1) := ⟨_, rfl⟩
  rw [← hL0, ← hE0]
  have hyes : words.all wordOk = true → Box (L0 = repB ⟨code, d, n, m, body, words, sums⟩ ∧ E0 = 0) := fun h => by
    have := repOk_of (r := ⟨code, d, n, m, body, words, sums⟩) (by simp only []; omega) (by simp only []; omega) nn nm (by simp only []; omega) (by simp only []; omega) (by simp only []; omega) h
    rw [if_pos this] at hL0 hE0; exact box ⟨hL0, hE0⟩
  have hno : ¬ words.all wordOk = true → Box (L0 = [] ∧ E0 = 1) := fun h => by
    have : ¬ repOk ⟨code, d, n, m, body, words, sums⟩ = true := fun h2 => h (hnot.out h2).2.2.2.2.2.2.2
    rw [if_neg this] at hL0 hE0; exact box ⟨hL0, hE0⟩
  clear hL0 hE0
  replace hyes := box hyes
  replace hno := box hno
  have h3' := numB_iff nn
  have h4' := numB_iff nm
  obtain ⟨x, hx⟩ := byte_of (q := code) (by omega) (by omega)
  subst hx
  have hxw : IntKind.u8.wrap (x.toNat : Int) = (x.toNat : Int) := IntWalk.u8_in _ (by omega)
  obtain ⟨i1, rfl⟩ := Int.eq_ofNat_of_zero_le h3'.1
  obtain ⟨i2, rfl⟩ := Int.eq_ofNat_of_zero_le h4'.1
  have hT3 := textL_len body (by omega)
  have k1 := cnt_len64 (n := i1) (by omega)
  have k2 := cnt_len64 (n := i2) (by omega)
  have k3 := cnt_len64 (n := words.length) (by omega)
  have k4 := cnt_len64 (n := sums.length) (by omega)
  have q1 : Box (i1 < 18446744073709551616) := box (by omega)
  have q2 : Box (i2 < 18446744073709551616) := box (by omega)
  have q3 : Box (words.length < 18446744073709551616) := box (by omega)
  have q4 : Box (sums.length < 18446744073709551616) := box (by omega)
  have hdd := hd.out
  have R1 : ([x] : List UInt8).length ≤ 100000000 := by simp
  have R2 : ([x] ++ d).length + (cnt i1).length ≤ 140737488355328 := by simp only [List.length_append, List.length_cons, List.length_nil]; omega
  have R3 : ([x] ++ d ++ cnt i1).length + (cnt i2).length ≤ 140737488355328 := by simp only [List.length_append, List.length_cons, List.length_nil]; omega
  have R4 : ([x] ++ d ++ cnt i1 ++ cnt i2).length + (textL body).length ≤ 140737488355328 := by simp only [List.length_append, List.length_cons, List.length_nil]; omega
  have R5 : ([x] ++ d ++ cnt i1 ++ cnt i2 ++ textL body).length + (cnt words.length).length ≤ 140737488355328 := by simp only [List.length_append, List.length_cons, List.length_nil]; omega
  have hb6 : body.length ≤ 1048576 := by omega
  have hw6 : words.length ≤ 100 := by omega
  have hs6 : sums.length ≤ 4096 := by omega
  clear hdd kb1 kb2 kb3 kb4 kb5
  clear nnb nmb
  replace nn := box nn
  replace nm := box nm
  go_enter Try.func19, Try.ntmps19
  go_wp2_with (first | ((with_reducible refine lst (by with_unfolding_all rfl) (wp_fbox hF0 (cs := (rpL (.int .i64 (x.toNat : Int)) (d.map bv) (.int .i64 (i1 : Int)) (.int .i64 (i2 : Int)) (.slice A body.length c) (.slice B words.length cb) (.slice C sums.length cc))) rfl (by with_unfolding_all rfl) (by with_unfolding_all rfl) ?_)); intro w1 g1 hF1 hz1) | (with_reducible refine lst (by with_unfolding_all rfl) (wp_fld0 hF1 Try.underlying3 rfl (by with_unfolding_all exact ⟨_, rfl, rfl⟩) (by first | with_unfolding_all rfl | exact hq.out.1 | exact hq.out.2.1) ?_)) | (with_reducible refine lst (by with_unfolding_all rfl) (wp_fld0 hF1 Try.underlying23 rfl (by with_unfolding_all exact ⟨_, rfl, rfl⟩) hq.out.2.2.1 ?_)) | (with_reducible refine lst (by with_unfolding_all rfl) (wp_fld0 hF1 Try.underlying44 rfl (by with_unfolding_all exact ⟨_, rfl, rfl⟩) hq.out.2.2.2.1 ?_)) | (with_reducible refine lst (by with_unfolding_all rfl) (wp_fld0 hF1 Try.underlying45 rfl (by with_unfolding_all exact ⟨_, rfl, rfl⟩) hq.out.2.2.2.2 ?_)) | (go_at_call 27; refine (number_any _ _).mono ?_; rintro e w' ⟨rfl, rfl⟩; first | rw [nn.out] | rw [nm.out]) | ((with_reducible refine lst (by with_unfolding_all rfl) (wp_fbsl T_u8 hF1 (vs := [bv x]) (by with_unfolding_all rfl) (by with_unfolding_all rfl) (by with_unfolding_all rfl) (by decide) (by simp [bv, Value.cells]) ?_)); intro w2 g2 hF2 hz2; have hr2 : Rd w2 (· < w2.heap.size) (some ⟨g2, 0, none⟩) 1 1 ([x].map bv) := hF2.rdOwn0; replace hF2 : Fr _ _ w2 (Ent.bytes _ 5 (.slice (some ⟨g2, 0, none⟩) 1 1) [x] :: _) := hF2) | (with_reducible refine lst (by with_unfolding_all rfl) (wp_fldA1 hF2 Try.underlying22 rfl (by with_unfolding_all exact ⟨_, rfl, rfl⟩) (ds := (d.map bv)) (by rw [hdl.out]; kernel_rfl) (rpL_dig rfl) ?_)))
  refine (sumF_any w.heap.size _ _ d w2 hF2.bytes0 hF2.size R1 hd.out).mono ?_
  rintro e w9 ⟨v9, rfl, ho9, hg9, hv9⟩
  have hF9 := hF2.putB0 hg9 ho9 hv9.out
  clear hF0 hF1 hF2 ho9 hg9 hv9
  go_wp2_with (first | (with_reducible refine lst (by with_unfolding_all rfl) (wp_fld1 hF9 Try.underlying3 rfl (by with_unfolding_all exact ⟨_, rfl, rfl⟩) hq.out.1 ?_)))
  refine (rcount_any i1 w9 q1).mono ?_
  rintro e w10 ⟨v10, rfl, ho10, hb10⟩
  obtain ⟨A10, c10, rfl, _, hr10⟩ := ho10.arg
  have hF10 := hF9.call hb10
  go_wp2_with (first | ((with_reducible refine lst (by with_unfolding_all rfl) (wp_fapp0 T_u8 hF10 (Nat.le_refl _) hr10 (by with_unfolding_all exact ⟨_, _, rfl, rfl, rfl⟩) R2 ?_)); intro v11 w11 hF11 hz11) | (with_reducible refine lst (by with_unfolding_all rfl) (wp_fld1 hF11 Try.underlying3 rfl (by with_unfolding_all exact ⟨_, rfl, rfl⟩) hq.out.2.1 ?_)))
  refine (rcount_any i2 w11 q2).mono ?_
  rintro e w12 ⟨v12, rfl, ho12, hb12⟩
  obtain ⟨A12, c12, rfl, _, hr12⟩ := ho12.arg
  have hF12 := hF11.call hb12
  go_wp2_with (first | ((with_reducible refine lst (by with_unfolding_all rfl) (wp_fapp0 T_u8 hF12 (Nat.le_refl _) hr12 (by with_unfolding_all exact ⟨_, _, rfl, rfl, rfl⟩) R3 ?_)); intro v13 w13 hF13 hz13) | (with_reducible refine lst (by with_unfolding_all rfl) (wp_fld1 hF13 Try.underlying23 rfl (by with_unfolding_all exact ⟨_, rfl, rfl⟩) hq.out.2.2.1 ?_)))
  refine (rtext_any A body.length c body w13 (by omega) (hF13.rdOld hr)).mono ?_
  rintro e w14 ⟨v14, rfl, ho14, hb14⟩
  obtain ⟨A14, c14, rfl, _, hr14⟩ := ho14.arg
  have hF14 := hF13.call hb14
  clear hF9 hF10 hF11 hF12 hF13 ho10 ho12 hb10 hb12 hb14 ho14
  go_wp2_with (first | ((with_reducible refine lst (by with_unfolding_all rfl) (wp_fapp0 T_u8 hF14 (Nat.le_refl _) hr14 (by with_unfolding_all exact ⟨_, _, rfl, rfl, rfl⟩) R4 ?_)); intro v15 w15 hF15 hz15) | (with_reducible refine lst (by with_unfolding_all rfl) (wp_fld1 hF15 Try.underlying44 rfl (by with_unfolding_all exact ⟨_, rfl, rfl⟩) hq.out.2.2.2.1 ?_)))
  refine (rcount_any words.length w15 q3).mono ?_
  rintro e w16 ⟨v16, rfl, ho16, hb16⟩
  obtain ⟨A16, c16, rfl, _, hr16⟩ := ho16.arg
  have hF16 := hF15.call hb16
  go_wp2_with (first | ((with_reducible refine lst (by with_unfolding_all rfl) (wp_fapp0 T_u8 hF16 (Nat.le_refl _) hr16 (by with_unfolding_all exact ⟨_, _, rfl, rfl, rfl⟩) R5 ?_)); intro v17 w17 hF17 hz17))
  obtain ⟨L, hL⟩ : ∃ L, L = [x] ++ d ++ cnt i1 ++ cnt i2 ++ textL body ++ cnt words.length := ⟨_, rfl⟩
  rw [← hL] at hF17
  have hdd := hd.out
  have hLl : L.length ≤ 2000000 := by rw [hL]; simp only [List.length_append, List.length_cons, List.length_nil]; omega
  clear hdd hF14 hF15 hF16 ho16 hb16
  replace hL := box hL
  go_loopw [4, 5] (fun q i wr => ∃ (k : Nat) (v' : Value), k ≤ words.length ∧ i = .int .i64 k ∧ q = v' ∧ Box ((words.take k).all wordOk = true) ∧ Fr [] w wr [Ent.bytes w.heap.size 5 v' (L ++ wordsB (words.take k)), .blk g1 47 (rpL (.int .i64 (x.toNat : Int)) (d.map bv) (.int .i64 (i1 : Int)) (.int .i64 (i2 : Int)) (.slice A body.length c) (.slice B words.length cb) (.slice C sums.length cc))]) (fun _ i _ => words.length - (intOf i).toNat)
  case atStart => exact ⟨0, _, by omega, rfl, rfl, box rfl, by rw [List.take_zero, wordsB, List.append_nil]; exact hF17⟩
  case round =>
    clear hF17
    obtain ⟨k, v', hk, rfl, rfl, HB, hF⟩ := hrel
    have hrw' := hF.rdOld hrw
    by_cases hlt : k < words.length
    · obtain ⟨u, hu⟩ : ∃ u, words[k]? = some u := ⟨words[k]'(by omega), by simp⟩
      have hu2 : (words.map Value.string)[k]? = some (.string u) := by simp [hu]
      have hT := take_snoc hu
      replace hu := box hu
      replace hu2 := box hu2
      replace hT := box hT
      by_cases hok : u.size ≤ 128
      · have hok2 : Box (wordOk u = true) := box (by simp [wordOk, hok])
        have hHl := wordsB_len _ HB.out
        have hT2 := textL_len u.data.toList (by rw [str_len]; omega)
        rw [str_len] at hT2
        have hrm : (L ++ wordsB (words.take k)).length + (textL u.data.toList).length ≤ 140737488355328 := by rw [List.length_append]; have : (words.take k).length ≤ k := List.length_take_le _ _; omega
        clear hHl hT2
        go_wp2_with (first | (with_reducible refine lst (by with_unfolding_all rfl) (wp_fld1 hF Try.underlying44 rfl (by with_unfolding_all exact ⟨_, rfl, rfl⟩) hq.out.2.2.2.1 ?_)) | (with_reducible refine lst (by with_unfolding_all rfl) (wp_indexAddr T_str hrw' (by with_unfolding_all exact ⟨_, _, _, _, rfl, rfl, rfl⟩) (by omega) (by omega) ?_)) | (with_reducible refine lst (by with_unfolding_all rfl) (wp_load1C hrw' hu2 Try.underlying9 rfl (by with_unfolding_all exact ⟨_, rfl, rfl⟩) (by first | (simp; done) | (simp; omega) | omega) ?_)) | ((with_reducible refine lst (by with_unfolding_all rfl) (wp_fs2b T_u8 Try.underlying5 Try.underlying9 hF (by with_unfolding_all exact ⟨_, rfl, rfl⟩) ?_)); intro w2 g2 c2 hF2 hz2 hc2))
        refine (rtext_any _ _ _ u.data.toList _ (by omega) hF2.rd0).mono ?_
        rintro e w5 ⟨v5, rfl, ho5, hb5⟩
        obtain ⟨A5, c5, rfl, _, hr5⟩ := ho5.arg
        have hF5 := hF2.tail.call hb5
        go_wp2_with (first | ((with_reducible refine lst (by with_unfolding_all rfl) (wp_fapp0 T_u8 hF5 (Nat.le_refl _) hr5 (by with_unfolding_all exact ⟨_, _, rfl, rfl, rfl⟩) hrm ?_)); intro v6 w6 hF6 hz6))
        go_roundw
        case rel => exact ⟨k + 1, _, by omega, by go_num, rfl, box (by rw [hT.out, List.all_append, HB.out]; simp [hok2.out]), by rw [hT.out, wordsB_snoc, ← List.append_assoc]; exact hF6⟩
        case measure => simp [intOf]; omega
      · have hbad := hno.out (fun h => by
          have := List.all_eq_true.1 h u (List.mem_of_getElem? hu.out)
          simp [wordOk] at this; omega)
        have b9 : decide (128 < (u.size : Int)) = true := by simp; omega
        go_wp2_with (first | (with_reducible refine lst (by with_unfolding_all rfl) (wp_fld1 hF Try.underlying44 rfl (by with_unfolding_all exact ⟨_, rfl, rfl⟩) hq.out.2.2.2.1 ?_)) | (with_reducible refine lst (by with_unfolding_all rfl) (wp_indexAddr T_str hrw' (by with_unfolding_all exact ⟨_, _, _, _, rfl, rfl, rfl⟩) (by omega) (by omega) ?_)) | (with_reducible refine lst (by with_unfolding_all rfl) (wp_load1C hrw' hu2 Try.underlying9 rfl (by with_unfolding_all exact ⟨_, rfl, rfl⟩) (by first | (simp; done) | (simp; omega) | omega) ?_)))
        go_ret2
        rw [hbad.out.1, hbad.out.2]
        exact ⟨_, rfl, OwnB.nil _ _ _, hF.below⟩
    · rw [List.take_of_length_le (by omega)] at HB hF
      have hgood := hyes.out HB.out
      have hHl := wordsB_len _ HB.out
      have room7 : (L ++ wordsB words).length + (cnt sums.length).length ≤ 140737488355328 := by rw [List.length_append]; omega
      go_wp2_with (first | (with_reducible refine lst (by with_unfolding_all rfl) (wp_fld1 hF Try.underlying44 rfl (by with_unfolding_all exact ⟨_, rfl, rfl⟩) hq.out.2.2.2.1 ?_)) | (with_reducible refine lst (by with_unfolding_all rfl) (wp_fld1 hF Try.underlying45 rfl (by with_unfolding_all exact ⟨_, rfl, rfl⟩) hq.out.2.2.2.2 ?_)))
      refine (rcount_any sums.length wr q4).mono ?_
      rintro e w1 ⟨v1, rfl, ho1, hb1⟩
      obtain ⟨A1, c1, rfl, _, hr1⟩ := ho1.arg
      have hF2 := hF.call hb1
      go_wp2_with (first | ((with_reducible refine lst (by with_unfolding_all rfl) (wp_fapp0 T_u8 hF2 (Nat.le_refl _) hr1 (by with_unfolding_all exact ⟨_, _, rfl, rfl, rfl⟩) room7 ?_)); intro v3 w3 hF3 hz3))
      clear hF hF2 ho1 hb1 HB
      obtain ⟨M, hM⟩ : ∃ M, M = L ++ wordsB words ++ cnt sums.length := ⟨_, rfl⟩
      rw [← hM] at hF3
      have hMl : M.length ≤ 3000000 := by rw [hM]; simp only [List.length_append]; omega
      replace hM := box hM
      clear room7 hHl
      go_loopw [4, 6] (fun q i wr => ∃ (k : Nat) (v' : Value), k ≤ sums.length ∧ i = .int .i64 k ∧ q = v' ∧ Fr [] w wr [Ent.bytes w.heap.size 5 v' (M ++ (sums.take k).flatten), .blk g1 47 (rpL (.int .i64 (x.toNat : Int)) (d.map bv) (.int .i64 (i1 : Int)) (.int .i64 (i2 : Int)) (.slice A body.length c) (.slice B words.length cb) (.slice C sums.length cc))]) (fun _ i _ => sums.length - (intOf i).toNat)
      case atStart => exact ⟨0, _, by omega, rfl, rfl, by rw [List.take_zero, List.flatten_nil, List.append_nil]; exact hF3⟩
      case round =>
        clear hF3
        obtain ⟨k, v', hk, rfl, rfl, hF⟩ := hrel
        have hrs' := hF.rdOld hrs
        by_cases hlt : k < sums.length
        · obtain ⟨u, hu⟩ : ∃ u, sums[k]? = some u := ⟨sums[k]'(by omega), by simp⟩
          have hu32 := box (hs32.out u (List.mem_of_getElem? hu))
          have hul : Box ((u.map bv).length = 32) := box (by rw [List.length_map]; exact hu32.out)
          have hcut := box (sumC_at hs32.out hu)
          have hT := take_snoc hu
          have hkl := sums_len (l := sums.take k) (fun s hs => hs32.out s (List.mem_of_mem_take hs))
          have hrm : (M ++ (sums.take k).flatten).length ≤ 100000000 := by rw [List.length_append, hkl]; have : (sums.take k).length ≤ k := List.length_take_le _ _; omega
          clear hkl
          replace hu := box hu
          replace hT := box hT
          go_wp2_with (first | (with_reducible refine lst (by with_unfolding_all rfl) (wp_fld1 hF Try.underlying45 rfl (by with_unfolding_all exact ⟨_, rfl, rfl⟩) hq.out.2.2.2.2 ?_)) | (with_reducible refine lst (by with_unfolding_all rfl) (wp_indexAddr T_sums hrs' (by with_unfolding_all exact ⟨_, _, _, _, rfl, rfl, rfl⟩) (by omega) (by omega) ?_)) | (with_reducible refine lst (by with_unfolding_all rfl) (wp_loadA hrs' Try.underlying22 rfl (by with_unfolding_all exact ⟨_, rfl, rfl⟩) (ds := (u.map bv)) (by rw [hul.out]; kernel_rfl) hcut.out ?_)))
          refine (sumF_any w.heap.size _ _ u _ hF.bytes0 hF.size hrm hu32.out).mono ?_
          rintro e w9 ⟨v9, rfl, ho9, hg9, hv9⟩
          have hF9 := hF.putB0 hg9 ho9 hv9.out
          go_wp2_with fail
          go_roundw
          case rel => exact ⟨k + 1, _, by omega, by go_num, rfl, by rw [hT.out, sums_snoc, ← List.append_assoc]; exact hF9⟩
          case measure => simp [intOf]; omega
        · rw [List.take_of_length_le (by omega)] at hF
          go_wp2_with (first | (with_reducible refine lst (by with_unfolding_all rfl) (wp_fld1 hF Try.underlying45 rfl (by with_unfolding_all exact ⟨_, rfl, rfl⟩) hq.out.2.2.2.2 ?_)))
          go_ret2
          rw [hgood.out.1, hgood.out.2]
          refine ⟨_, rfl, ?_, hF.below⟩
          have hfin : repB ⟨(x.toNat : Int), d, i1, i2, body, words, sums⟩ = M ++ sums.flatten := by
            rw [hM.out, hL.out]; simp [repB]
          rw [hfin]
          exact hF.bytes0
end Go.Proofs.Ytcnjnkkdidpjiaa

namespace Go.Proofs.Ytcnjnkkdidpjiaa
open Go.RowKit

section
variable {X : List Nat} {w0 w w' : World} {es es' : List Ent}
theorem app_at {α : Type} {l l' : List α} {i : Nat} {x : α} (h : (l ++ l')[i]? = some x) : (l[i]? = some x ∧ i < l.length) ∨ (l'[i - l.length]? = some x ∧ l.length ≤ i) := by
  rcases Nat.lt_or_ge i l.length with h1 | h1
  · rw [List.getElem?_append_left h1] at h; exact .inl ⟨h, h1⟩
  · rw [List.getElem?_append_right h1] at h; exact .inr ⟨h, h1⟩
theorem Fr.join (h : Fr X w0 w es) (h' : Fr [] w w' es') : Fr X w0 w' (es' ++ es) := by
  have hg := h.grow (grown_of_below h'.below)
  have old : ∀ {i : Nat} {e : Ent}, es'[i]? = some e → ∀ b, e.block = some b → w.heap.size ≤ b := fun {i e} hi b hb => by simpa using h'.fresh i e hi b hb
  have part : ∀ {i j : Nat} {e f : Ent}, es'[i]? = some e → es[j]? = some f → e.apart f := fun {i j e f} hi hj => by
    unfold Ent.apart
    cases hb : e.block with
    | none => exact .inl rfl
    | some b => exact .inr fun he => h.old hj (old hi b hb) he.symm
  refine ⟨hg.os, hg.tape, hg.output, hg.size, hg.block, fun i e hi => ?_, fun i e hi b hb => ?_, fun i j e f hi hj hij => ?_⟩
  · rcases app_at hi with ⟨h1, _⟩ | ⟨h1, _⟩
    · exact h'.holds i e h1
    · exact hg.holds _ e h1
  · rcases app_at hi with ⟨h1, _⟩ | ⟨h1, _⟩
    · exact .inl (Nat.le_trans h.size (old h1 b hb))
    · exact h.fresh _ e h1 b hb
  · rcases app_at hi with ⟨h1, i1⟩ | ⟨h1, i1⟩
    · rcases app_at hj with ⟨h2, j1⟩ | ⟨h2, j1⟩
      · exact h'.apart i j e f h1 h2 hij
      · exact part h1 h2
    · rcases app_at hj with ⟨h2, j1⟩ | ⟨h2, j1⟩
      · exact (part h2 h1).symm
      · exact h.apart _ _ e f h1 h2 (by omega)
/-- Some of the entries, by their places. -/
theorem Fr.picks (h : Fr X w0 w es) (is : List Nat) {fs : List Ent} (hx : is.map (fun i => es[i]?) = fs.map some) (nd : is.Nodup) : Fr X w0 w fs := by
  have key : ∀ (j : Nat) (f : Ent), fs[j]? = some f → ∃ i, is[j]? = some i ∧ es[i]? = some f := fun j f hj => by
    have h1 : (is.map (fun i => es[i]?))[j]? = some (some f) := by rw [hx, List.getElem?_map, hj]; rfl
    rw [List.getElem?_map] at h1
    cases hi : is[j]? with
    | none => rw [hi] at h1; cases h1
    | some i => rw [hi] at h1; exact ⟨i, rfl, by simpa using h1⟩
  refine ⟨h.os, h.tape, h.output, h.size, h.block, fun j f hj => ?_, fun j f hj b hb => ?_, fun j k f f' hj hk hjk => ?_⟩
  · obtain ⟨i, _, hi⟩ := key j f hj; exact h.holds i f hi
  · obtain ⟨i, _, hi⟩ := key j f hj; exact h.fresh i f hi b hb
  · obtain ⟨i, h1, hi⟩ := key j f hj
    obtain ⟨i', h2, hi'⟩ := key k f' hk
    refine h.apart i i' f f' hi hi' fun he => hjk ?_
    subst he
    obtain ⟨l1, e1⟩ := List.getElem?_eq_some_iff.1 h1
    obtain ⟨l2, e2⟩ := List.getElem?_eq_some_iff.1 h2
    have hp := List.pairwise_iff_getElem.1 nd
    rcases Nat.lt_trichotomy j k with h3 | h3 | h3
    · exact absurd (e1.trans e2.symm) (hp j k l1 l2 h3)
    · exact h3
    · exact absurd (e2.trans e1.symm) (hp k j l2 l1 h3)
/-- A slice that is none owns nothing. -/
theorem Fr.none_ (h : Fr X w0 w es) (b : Nat) (e : TypeId) (size : Nat) : Fr X w0 w (.own b e size (.slice none 0 0) 0 [] :: es) :=
  h.push (e := .own b e size (.slice none 0 0) 0 []) (World.ownsRow_nil _ _ _ _) fun b hb => by cases hb
theorem own_parts {b : Nat} {e : TypeId} {size n : Nat} {v : Value} {xs : List Value} (h : w.ownsRow b e size v n xs) : ∃ A c, v = .slice A n c ∧ n ≤ c := by
  rcases h.2 with ⟨h1, h2⟩ | ⟨g, cap, cur, h1, _, _, h2, _⟩
  · subst h2; exact ⟨none, 0, h1, Nat.le_refl _⟩
  · exact ⟨_, _, h1, h2⟩
theorem Fr.ownParts (h : Fr X w0 w es) {i b : Nat} {e : TypeId} {size n : Nat} {v : Value} {xs : List Value} (hi : es[i]? = some (.own b e size v n xs)) : ∃ A c, v = .slice A n c ∧ n ≤ c := own_parts (w := w) (h.holds i _ hi)
end
end Go.Proofs.Ytcnjnkkdidpjiaa

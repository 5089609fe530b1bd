/-
  OctetCountBack: the law's walk.
-/
import Derived.Test.YtinmlamdhibeeaaWB
import Derived.Test.YtinmlamdhibeeaaPlain2
namespace Go.Proofs.Ytinmlamdhibeeaa
open Go.RowKit

set_option maxRecDepth 20000 in
set_option maxHeartbeats 1600000 in
theorem octetCountBack_any (q : Nat) (A : Option Addr) (n c : Nat) (l : List UInt8) (w : World) (hq : Box (q < 18446744073709551616)) (hm : n ≤ 1048576) (hr : Rd w (· < w.heap.size) A 1 n (l.map bv)) :
    Calls Try.prog 7 #[.int .u64 q, .slice A n c] w fun e w' => e = .returned (.bool true) ∧ Below w.heap.size w w' := by
  have hback := rdc_back q l hq.out
  have hcut := rdc_cut q hq.out
  have hln := hr.bytes_len
  have hlen := cnt_len64 hq.out
  have hpos := cnt_pos q
  have hcnt := box (count_any q w hq)
  generalize cnt q = K at *
  replace hback := box hback
  replace hcut := box hcut
  go_enter Try.func7, Try.ntmps7
  go_wp2_with fail
  refine hcnt.out.mono ?_
  rintro e w1 ⟨v1, rfl, hown1, hb1⟩
  obtain ⟨A1, c1, rfl, hc1, hr1⟩ := hown1.arg
  go_wp2_with fail
  refine (twin_any A1 _ c1 K w1 (by omega) hr1).mono ?_
  rintro e w2 ⟨v2, rfl, hown2, hb2⟩
  have hroom : K.length + n ≤ 140737488355328 := by omega
  have hB2 : w1.heap.size ≤ w2.heap.size := hb2.size
  have hr2 := (hr.on hb1).on hb2
  have hr1b := hr1.on hb2
  have hb0 := hb1
  clear hown1
  go_wp2_with (first | (at_builtin; go_must (with_reducible refine lst (by with_unfolding_all rfl) (wp_appB T_u8 hown2 hb2 hr2 (by with_unfolding_all exact ⟨_, _, rfl, rfl, rfl⟩) hroom hB2 ?_); intro v' w1 hown1 hb1 hg1 hB1)))
  obtain ⟨A3, c3, rfl, hc3, hr3⟩ := hown1.arg
  have hr1c := hr1.on hb1
  have hbb := blw hb0 hb1
  have hrc := readCount_any A3 _ c3 _ w1 (by rw [List.length_append]; omega) hr3
  rw [hback.out] at hrc
  replace hrc := box hrc
  refine hrc.out.mono ?_
  rintro e w' ⟨rfl, rfl⟩
  clear hrc hr3 hown1 hc3
  have hpos' : ((K.length : Int) == 0) = false := by rw [beq_eq_false_iff_ne]; omega
  go_wp2_with fail
  refine (awake_any _).mono ?_
  rintro e w4 ⟨rfl, hb4⟩
  have hr4 := hr1c.on hb4
  have hb5 := blw hbb hb4
  go_wp2_with (first | ((with_reducible refine lst (by with_unfolding_all rfl) (wp_cutB T_u8 hr4 hc1 (lo := none) (hi := (some ((K.length:Int)-1))) (mx := none) ?_ (l := 0) (h := (K.length-1)) (m := c1) (by first | (simp; done) | (simp; omega)) (by first | (simp; done) | (simp; omega)) (by first | (simp; done) | (simp; omega)) (by simp) (by omega) (by omega) (by omega) (by omega) ?_)); exact ⟨_, _, _, _, .i64, .i64, .i64, rfl, rfl, rfl, rfl, rfl⟩; intro A2 c2 hr2 hc2 hc3))
  have hrf := readCount_any A2 _ c2 _ w4 (by omega) hr2
  rw [List.drop_zero, Nat.sub_zero] at hrf
  generalize rdc 0 0 (List.take (K.length - 1) K) = Z at *
  obtain ⟨z1, z2, z3⟩ := Z
  have hz3 : z3 = 9 := hcut.out
  subst hz3
  replace hrf := box hrf
  refine hrf.out.mono ?_
  rintro e w' ⟨rfl, rfl⟩
  go_wp2_with fail
  go_ret
  exact ⟨rfl, hb5⟩
end Go.Proofs.Ytinmlamdhibeeaa

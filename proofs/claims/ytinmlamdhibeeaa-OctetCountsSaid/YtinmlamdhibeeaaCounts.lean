/-
  OctetCounts, OctetCountBack: the laws' walks.
-/
import Derived.Test.YtinmlamdhibeeaaWB
import Derived.Test.YtinmlamdhibeeaaPlain2
import Derived.Deep.RegionWith
namespace Go.Proofs.Ytinmlamdhibeeaa
open Go.RowKit

set_option maxRecDepth 20000 in
set_option maxHeartbeats 1600000 in
theorem octetCounts_any (A : Option Addr) (n c : Nat) (l : List UInt8) (q : Nat) (w : World) (hm : n ≤ 9223372036854775807) (hnc : n ≤ c) (hq : Box (q < 18446744073709551616)) (hr : Rd w (· < w.heap.size) A 1 n (l.map bv)) :
    Calls Try.prog 6 #[.slice A n c, .int .u64 q] w fun e w' => e = .returned (.bool true) ∧ Below w.heap.size w w' := by
  have h1 := box (readCount_any A n c l w hm hr)
  have h2 := box (rreadCount_any A n c l w hm hr)
  have hc := box (fun h => rdc_cnt (l := l) h)
  have hl := box hr.bytes_len
  have h64 := box (rdc_lt l)
  have herr := rdc_err l 0 0
  generalize (rdc 0 0 l).1 = x at *
  generalize (rdc 0 0 l).2.1 = u at *
  generalize (rdc 0 0 l).2.2 = er at *
  have herr' : er ≤ 10 := by omega
  clear herr
  have hx10 := box (cnt_len64 h64.out)
  have hq10 := box (cnt_len64 hq.out)
  go_enter Try.func6, Try.ntmps6
  go_wp2_with fail
  refine h1.out.mono ?_
  rintro e w' ⟨rfl, rfl⟩
  go_wp2_with fail
  refine h2.out.mono ?_
  rintro e w' ⟨rfl, rfl⟩
  go_wp2_with fail
  refine (awake_any w).mono ?_
  rintro e w1 ⟨rfl, hb1⟩
  go_wp2_with fail
  refine (count_any q w1 hq).mono ?_
  rintro e w2 ⟨v2, rfl, hown2, hb2⟩
  go_wp2_with fail
  refine (rcount_any q w2 hq).mono ?_
  rintro e w3 ⟨v3, rfl, hown3, hb3⟩
  obtain ⟨A2, c2, rfl, _, hr2⟩ := hown2.arg
  obtain ⟨A3, c3, rfl, _, hr3⟩ := hown3.arg
  go_wp2_with fail
  refine (same_any A2 A3 _ _ c2 c3 _ _ w3 (by have := hq10.out; omega) (hr2.on hb3) hr3).mono ?_
  rintro e w4 ⟨rfl, hb4⟩
  rw [beq_self_eq_true]
  have hb : Below w.heap.size w w4 := ((hb1.trans (hb2.mono hb1.size)).trans (hb3.mono (Nat.le_trans hb1.size hb2.size))).trans (hb4.mono (Nat.le_trans hb1.size (Nat.le_trans hb2.size hb3.size)))
  clear hown2 hown3 hr2 hr3 hb1 hb2 hb3 hb4
  have hr' := hr.on hb
  by_cases he : er = 0
  · subst he
    have hcu := hc.out rfl
    have hu : u ≤ n := by rw [← hl.out]; exact hcu.2
    replace hcu := box hcu.1
    go_wp2
    have hxu : (cnt x == l.take u) = true := by rw [hcu.out, beq_self_eq_true]
    replace hxu := box hxu
    go_region_with (first | (go_at_call 22; refine (count_any x _ h64).mono ?_; rintro e w5 ⟨v5, rfl, hown5, hb5⟩; obtain ⟨A5, c5, rfl, _, hr5⟩ := hown5.arg) | (go_at_call 21; refine (same_any _ _ _ _ _ _ _ _ _ ?_ hr5 ((hr'.drew.on hb5).takeB hu)).mono ?_; (have := hx10.out; omega); rintro e w6 ⟨rfl, hb6⟩; rw [hxu.out]))
    all_goals
      go_wp2
      go_ret
      exact ⟨rfl, (hb.drew.trans (hb5.mono hb.size)).trans (hb6.mono (Nat.le_trans hb.size hb5.size))⟩
  · have hne : ((er : Int) != 0) = true := by simp; omega
    go_wp2
    go_quiet (fail)
    go_wp2
    go_ret
    exact ⟨rfl, below_drewN hb _⟩
end Go.Proofs.Ytinmlamdhibeeaa

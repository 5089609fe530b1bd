/-
  OctetNumbers: the law's walk.
-/
import Derived.Test.YtinmlamdhibeeaaWB
import Derived.BigQuiet
namespace Go.Proofs.Ytinmlamdhibeeaa
open Go.RowKit

theorem putS_len (n : Nat) (size : Int) : (putS n size).length ≤ 8 := by
  unfold putS
  split
  · rw [putL_len]; omega
  · simp

set_option maxRecDepth 20000 in
set_option maxHeartbeats 1600000 in
theorem octetNumbers_any (q : Nat) (size : Int) (A : Option Addr) (n c : Nat) (l : List UInt8) (at_ : Int) (w : World) (hm : n ≤ 9223372036854775807) (hnc : n ≤ c) (hr : Rd w (· < w.heap.size) A 1 n (l.map bv)) :
    Calls Try.prog 12 #[.int .u64 q, .int .i64 size, .slice A n c, .int .i64 at_] w fun e w' => e = .returned (.bool true) ∧ Below w.heap.size w w' := by
  have h1 := box (get_any A n c l w hm hr)
  have h2 := box (rget_any A n c l w hm hr)
  have h3 := box (word_any A n c l at_ w hm hnc hr)
  generalize (if n ≤ 8 then (getN l : Nat) else 0 : Nat) = X at *
  generalize decide (n ≤ 8) = B at *
  have hl := box hr.bytes_len
  have hS := putS_len q size
  have hp1 := box (fun w => put_any q size w)
  have hp2 := box (fun w => rput_any q size w)
  generalize putS q size = S at *
  go_enter Try.func12, Try.ntmps12
  go_wp2_with fail
  refine h1.out.mono ?_
  rintro e w' ⟨rfl, rfl⟩
  go_wp2_with fail
  refine h2.out.mono ?_
  rintro e w' ⟨rfl, rfl⟩
  go_wp2_with fail
  refine h3.out.mono ?_
  rintro e w' ⟨rfl, rfl⟩
  clear h1 h2 h3
  by_cases hin : 0 ≤ at_ ∧ at_ + 4 ≤ (n : Int)
  · rw [if_pos hin]
    obtain ⟨a, rfl⟩ := Int.eq_ofNat_of_zero_le hin.1
    have ha : a + 4 ≤ n := by omega
    clear hin
    have hG := getN_lt 4 (List.take 4 (List.drop a l)) (by rw [List.length_take]; omega)
    rw [Int.toNat_natCast]
    have hlist : (l.take (a + 4)).drop a = List.take 4 (List.drop a l) := by rw [List.drop_take, Nat.add_sub_cancel_left]
    replace hlist := box hlist
    obtain ⟨G, hGe⟩ : ∃ G, Box (getN (List.take 4 (List.drop a l)) = G) := ⟨_, box rfl⟩
    rw [hGe.out] at hG ⊢
    go_wp2_with fail
    refine (awake_any _).mono ?_
    rintro e w1 ⟨rfl, hb1⟩
    go_wp2_with fail
    refine (hp1.out w1).mono ?_
    rintro e w2 ⟨v2, rfl, hown2, hb2⟩
    go_wp2_with fail
    refine (hp2.out w2).mono ?_
    rintro e w3 ⟨v3, rfl, hown3, hb3⟩
    obtain ⟨A2, c2, rfl, _, hr2⟩ := hown2.arg
    obtain ⟨A3, c3, rfl, _, hr3⟩ := hown3.arg
    go_wp2_with fail
    refine (same_any A2 A3 _ _ c2 c3 _ _ w3 (by omega) (hr2.on hb3) hr3).mono ?_
    rintro e w4 ⟨rfl, hb4⟩
    rw [beq_self_eq_true]
    have hb : Below w.heap.size w w4 := blw (blw (blw hb1 hb2) hb3) hb4
    have hr4 := hr.on hb
    clear hown2 hown3 hr2 hr3 hb1 hb2 hb3 hb4 hp1 hp2
    have hn1 : ((n : Int) - 4 < (a : Int)) = False := eq_false (by omega)
    go_wp2_with (first | ((with_reducible refine lst (by with_unfolding_all rfl) (wp_cutB T_u8 hr4 hnc (lo := (some (a:Int))) (hi := (some ((a:Int)+4))) (mx := none) ?_ (l := a) (h := (a+4)) (m := c) (by first | (simp; done) | (simp; omega)) (by first | (simp; done) | (simp; omega)) (by first | (simp; done) | (simp; omega)) (by simp) (by omega) (by omega) (by omega) (by omega) ?_)); exact ⟨_, _, _, _, .i64, .i64, .i64, rfl, rfl, rfl, rfl, rfl⟩; intro A2 c2 hr2 hc2 hc3))
    rw [hlist.out, Nat.add_sub_cancel_left] at hr2
    have hg := rget_any A2 4 c2 _ w4 (by omega) hr2
    rw [if_pos (by omega), decide_eq_true (by omega), hGe.out] at hg
    refine hg.mono ?_
    rintro e w' ⟨rfl, rfl⟩
    clear hg hr2 hGe
    have hGm : ((G : Int) == (G : Int)) = true := beq_self_eq_true _
    have hG4 : G < 4294967296 := hG
    clear hG
    go_wp2
    go_ret
    exact ⟨rfl, hb⟩
  · rw [if_neg hin]
    go_wp2_with fail
    refine (awake_any _).mono ?_
    rintro e w1 ⟨rfl, hb1⟩
    go_wp2_with fail
    refine (hp1.out w1).mono ?_
    rintro e w2 ⟨v2, rfl, hown2, hb2⟩
    go_wp2_with fail
    refine (hp2.out w2).mono ?_
    rintro e w3 ⟨v3, rfl, hown3, hb3⟩
    obtain ⟨A2, c2, rfl, _, hr2⟩ := hown2.arg
    obtain ⟨A3, c3, rfl, _, hr3⟩ := hown3.arg
    go_wp2_with fail
    refine (same_any A2 A3 _ _ c2 c3 _ _ w3 (by omega) (hr2.on hb3) hr3).mono ?_
    rintro e w4 ⟨rfl, hb4⟩
    rw [beq_self_eq_true]
    have hb : Below w.heap.size w w4 := blw (blw (blw hb1 hb2) hb3) hb4
    clear hown2 hown3 hr2 hr3 hb1 hb2 hb3 hb4 hp1 hp2
    by_cases h0 : at_ < 0
    · go_wp2
      go_ret
      exact ⟨rfl, hb⟩
    · have hn1 : (n : Int) - 4 < at_ := by omega
      go_wp2
      go_ret
      exact ⟨rfl, hb⟩
end Go.Proofs.Ytinmlamdhibeeaa

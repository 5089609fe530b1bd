/-
  The walk of octet.ReadText.
-/
import Derived.Test.YtcnjnkkdidpjiaaReadCount
namespace Go.Proofs.Ytcnjnkkdidpjiaa
open Go.RowKit

set_option maxRecDepth 20000 in
set_option maxHeartbeats 800000 in
theorem readText_any (A : Option Addr) (n c : Nat) (l : List UInt8) (most : Int) (w : World) (hm : n ≤ 140737488355000) (hnc : n ≤ c) (hmo : most ≤ 9223372036854775807) (hr : Rd w (· < w.heap.size) A 1 n (l.map bv)) :
    Calls Try.prog 38 #[.slice A n c, .int .i64 most] w fun e w' => ∃ v, e = .returned (.tuple #[v, .int .i64 (rdt l most).2.1, .int .i64 (rdt l most).2.2]) ∧ OwnB w' w.heap.size 5 v (rdt l most).1 ∧ Below w.heap.size w w' := by
  have hrc := box (readCount_any A n c l w (by omega) hr)
  have hway := rdt_way hr.bytes_len most
  have h64 := box (rdc_lt l)
  have herr := rdc_err l 0 0
  generalize (rdc 0 0 l).1 = x at *
  generalize (rdc 0 0 l).2.1 = u at *
  generalize (rdc 0 0 l).2.2 = er at *
  generalize rdt l most = r at *
  have herr' : er ≤ 10 := by omega
  clear herr
  rcases hway.way with ⟨h0, rfl⟩ | ⟨rfl, hu, ⟨h1, rfl⟩ | ⟨h1, ⟨h2, rfl⟩ | ⟨h2, rfl⟩⟩⟩
  · clear hway
    have hne : ((er : Int) != 0) = true := by simp; omega
    go_enter Try.func38, Try.ntmps38
    go_wp2_with fail
    refine hrc.out.mono ?_
    rintro e w1 ⟨rfl, rfl⟩
    go_wp2
    go_ret3
    exact ⟨_, rfl, OwnB.nil _ _ _, Below.refl _ _⟩
  · clear hway
    by_cases hmn : most < 0
    · go_enter Try.func38, Try.ntmps38
      go_wp2_with fail
      refine hrc.out.mono ?_
      rintro e w1 ⟨rfl, rfl⟩
      go_wp2
      go_ret3
      exact ⟨_, rfl, OwnB.nil _ _ _, Below.refl _ _⟩
    · go_enter Try.func38, Try.ntmps38
      go_wp2_with fail
      refine hrc.out.mono ?_
      rintro e w1 ⟨rfl, rfl⟩
      go_wp2
      go_ret3
      exact ⟨_, rfl, OwnB.nil _ _ _, Below.refl _ _⟩
  · clear hway
    have hmn : ¬ most < 0 := by omega
    go_enter Try.func38, Try.ntmps38
    go_wp2_with fail
    refine hrc.out.mono ?_
    rintro e w1 ⟨rfl, rfl⟩
    go_wp2
    go_ret3
    exact ⟨_, rfl, OwnB.nil _ _ _, Below.refl _ _⟩
  · clear hway
    have hmn : ¬ most < 0 := by omega
    have hr' := hr.mapB (k := u) (j := x) (by omega)
    have hb0 := Below.refl w.heap.size w
    have hB0 := Nat.le_refl w.heap.size
    go_enter Try.func38, Try.ntmps38
    go_wp2_with fail
    refine hrc.out.mono ?_
    rintro e w1 ⟨rfl, rfl⟩
    have hn0 : ([] : List UInt8).length + (u + x - u) ≤ 140737488355328 := by simp; omega
    go_wp2_with (first | ((with_reducible refine lst (by with_unfolding_all rfl) (wp_build0 T_u8 hb0 hB0 (by with_unfolding_all rfl) ?_)); intro v1 w1 hown1 hb1 hB1 hg1) | (at_builtin; go_must (with_reducible refine lst (by with_unfolding_all rfl) (wp_appB T_u8 hown1 hb1 hr2 (by with_unfolding_all exact ⟨_, _, rfl, rfl, rfl⟩) hn0 hB1 ?_); intro v' w1 hown1 hb1 hg1 hB1)) | ((with_reducible refine lst (by with_unfolding_all rfl) (wp_cutB T_u8 (hr.below hb1) hnc (lo := (some (u:Int))) (hi := (some ((u:Int)+(x:Int)))) (mx := (some ((u:Int)+(x:Int)))) ?_ (l := u) (h := (u+x)) (m := (u+x)) (by first | (simp; done) | (simp; omega)) (by first | (simp; done) | (simp; omega)) (by first | (simp; done) | (simp; omega)) (by simp) (by omega) (by omega) (by omega) (by omega) ?_)); exact ⟨_, _, _, _, .i64, .i64, .i64, rfl, rfl, rfl, rfl, rfl⟩; intro A2 c2 hr2 hc2 hc3))
    go_ret3
    rw [List.nil_append, List.drop_take, Nat.add_sub_cancel_left] at hown1
    exact ⟨v', ret3 rfl (int_eq (by simp)) rfl, hown1, hb1⟩
end Go.Proofs.Ytcnjnkkdidpjiaa

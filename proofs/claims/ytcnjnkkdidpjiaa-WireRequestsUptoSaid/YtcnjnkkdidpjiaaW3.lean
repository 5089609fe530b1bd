/-
  Layer 19: the walks of the program's reader.
-/
import Derived.Test.YtcnjnkkdidpjiaaW1
import Derived.Test.YtcnjnkkdidpjiaaWRd
import Derived.Test.YtcnjnkkdidpjiaaReadCount
namespace Go.Proofs.Ytcnjnkkdidpjiaa
open Go.RowKit

set_option maxRecDepth 20000 in
set_option maxHeartbeats 800000 in
theorem rdCount_any (B g N : Nat) (s : Option (List UInt8)) (cs : List Value) (w0 w : World) (hb : Below B w0 w) (hB : B ≤ w0.heap.size) (hh : w.heap[g]? = some (.cells cs.toArray 72 (0, 0))) (hR : RdrAt w0 B N s cs) (hN : N ≤ 140737488355000) :
    Calls Try.prog 33 #[.pointer (some ⟨g, 0, none⟩)] w (Left w 72 g (.int .i64 (rCount s).1) (RdrAt w0 B N (rCount s).2)) := by
  obtain ⟨A, n, c, l, ok, rfl, hr0, hnc, hn, hs⟩ := hR.ex
  have hF := Fr.one hh
  have hrB := hr0.below hb
  have hBw : B ≤ w.heap.size := Nat.le_trans hB hb.size
  have hr := hrB.wide hBw
  have hrc := box (readCount_any A n c l w (by omega) hr)
  have hl := hr.bytes_len
  cases ok with
  | false =>
    obtain rfl : s = none := hs.out
    go_enter Try.func33, Try.ntmps33
    go_wp2_with (first | (with_reducible refine lst (by with_unfolding_all rfl) (wp_fld0 hF Try.underlying23 rfl (by with_unfolding_all exact ⟨_, rfl, rfl⟩) (by first | with_unfolding_all rfl | assumption) ?_)))
    refine hrc.out.mono ?_
    rintro e w1 ⟨rfl, rfl⟩
    go_wp2_with (first | (with_reducible refine lst (by with_unfolding_all rfl) (wp_fld0 hF Try.underlying23 rfl (by with_unfolding_all exact ⟨_, rfl, rfl⟩) (by first | with_unfolding_all rfl | assumption) ?_)) | (with_reducible refine lst (by with_unfolding_all rfl) (wp_fld0 hF Try.underlying4 rfl (by with_unfolding_all exact ⟨_, rfl, rfl⟩) (by first | with_unfolding_all rfl | assumption) ?_)) | ((with_reducible refine lst (by with_unfolding_all rfl) (wp_fst0 hF (by with_unfolding_all exact ⟨_, _, rfl, rfl, rfl⟩) (by kernel_rfl) rfl rfl (by first | decide | (simp; done) | (simp; omega)) rfl ?_)); intro w1 hF1 hz1))
    go_ret
    exact ⟨_, rfl, hF1.grown, hF1.heap0, ⟨A, n, c, l, false, rfl, hr0, hnc, hn, box rfl⟩⟩
  | true =>
    obtain rfl : s = some l := hs.out
    have hrd : rCount (some l) = if (rdc 0 0 l).2.2 ≠ 0 ∨ 1099511627776 < (rdc 0 0 l).1 then (0, none) else ((rdc 0 0 l).1, some (l.drop (rdc 0 0 l).2.1)) := rfl
    have h64 := box (rdc_lt l)
    have herr := rdc_err l 0 0
    have hu := rdc_used l 0 0
    rw [hl] at hu
    generalize (rdc 0 0 l).1 = x at *
    generalize (rdc 0 0 l).2.1 = u at *
    generalize (rdc 0 0 l).2.2 = er at *
    have herr' : er ≤ 10 := by omega
    clear herr
    by_cases h0 : er = 0
    · subst h0
      have hun : u ≤ n := by have := hu rfl; omega
      clear hu
      by_cases hx : 1099511627776 < x
      · rw [if_pos (.inr hx)] at hrd
        rw [hrd]
        clear hrd
        go_enter Try.func33, Try.ntmps33
        go_wp2_with (first | (with_reducible refine lst (by with_unfolding_all rfl) (wp_fld0 hF Try.underlying23 rfl (by with_unfolding_all exact ⟨_, rfl, rfl⟩) (by first | with_unfolding_all rfl | assumption) ?_)))
        refine hrc.out.mono ?_
        rintro e w1 ⟨rfl, rfl⟩
        go_wp2_with (first | (with_reducible refine lst (by with_unfolding_all rfl) (wp_fld0 hF Try.underlying23 rfl (by with_unfolding_all exact ⟨_, rfl, rfl⟩) (by first | with_unfolding_all rfl | assumption) ?_)) | (with_reducible refine lst (by with_unfolding_all rfl) (wp_fld0 hF Try.underlying4 rfl (by with_unfolding_all exact ⟨_, rfl, rfl⟩) (by first | with_unfolding_all rfl | assumption) ?_)) | ((with_reducible refine lst (by with_unfolding_all rfl) (wp_fst0 hF (by with_unfolding_all exact ⟨_, _, rfl, rfl, rfl⟩) (by kernel_rfl) rfl rfl (by first | decide | (simp; done) | (simp; omega)) rfl ?_)); intro w1 hF1 hz1))
        go_ret
        exact ⟨_, rfl, hF1.grown, hF1.heap0, ⟨A, n, c, l, false, rfl, hr0, hnc, hn, box rfl⟩⟩
      · rw [if_neg (by omega)] at hrd
        rw [hrd]
        clear hrd
        go_enter Try.func33, Try.ntmps33
        go_wp2_with (first | (with_reducible refine lst (by with_unfolding_all rfl) (wp_fld0 hF Try.underlying23 rfl (by with_unfolding_all exact ⟨_, rfl, rfl⟩) (by first | with_unfolding_all rfl | assumption) ?_)))
        refine hrc.out.mono ?_
        rintro e w1 ⟨rfl, rfl⟩
        go_wp2_with (first | (with_reducible refine lst (by with_unfolding_all rfl) (wp_fld0 hF Try.underlying23 rfl (by with_unfolding_all exact ⟨_, rfl, rfl⟩) (by first | with_unfolding_all rfl | assumption) ?_)) | (with_reducible refine lst (by with_unfolding_all rfl) (wp_fld0 hF Try.underlying4 rfl (by with_unfolding_all exact ⟨_, rfl, rfl⟩) (by first | with_unfolding_all rfl | assumption) ?_)) | ((with_reducible refine lst (by with_unfolding_all rfl) (wp_fst0 hF (by with_unfolding_all exact ⟨_, _, rfl, rfl, rfl⟩) (by kernel_rfl) rfl rfl (by first | decide | (simp; done) | (simp; omega)) rfl ?_)); intro w1 hF1 hz1) | ((with_reducible refine lst (by with_unfolding_all rfl) (wp_cutB T_u8 hrB hnc (lo := (some (u:Int))) (hi := none) (mx := none) ?_ (l := u) (h := n) (m := c) (by first | (simp; done) | (simp; omega)) (by first | (simp; done) | (simp; omega)) (by first | (simp; done) | (simp; omega)) (by simp) (by omega) (by omega) (by omega) (by omega) ?_)); exact ⟨_, _, _, _, .i64, .i64, .i64, rfl, rfl, rfl, rfl, rfl⟩; intro A2 c2 hr2 hc2 hc3))
        go_ret
        rw [List.take_of_length_le (by omega)] at hr2
        exact ⟨_, ret1 (int_eq (by omega)), hF1.grown, hF1.heap0, ⟨A2, n - u, c2, l.drop u, true, rfl, hr2.same (fun k hk => (hb.block k hk).symm), hc2, by omega, box rfl⟩⟩
    · have hne : ((er : Int) != 0) = true := by simp; omega
      rw [if_pos (.inl h0)] at hrd
      rw [hrd]
      clear hrd hu
      go_enter Try.func33, Try.ntmps33
      go_wp2_with (first | (with_reducible refine lst (by with_unfolding_all rfl) (wp_fld0 hF Try.underlying23 rfl (by with_unfolding_all exact ⟨_, rfl, rfl⟩) (by first | with_unfolding_all rfl | assumption) ?_)))
      refine hrc.out.mono ?_
      rintro e w1 ⟨rfl, rfl⟩
      go_wp2_with (first | (with_reducible refine lst (by with_unfolding_all rfl) (wp_fld0 hF Try.underlying23 rfl (by with_unfolding_all exact ⟨_, rfl, rfl⟩) (by first | with_unfolding_all rfl | assumption) ?_)) | (with_reducible refine lst (by with_unfolding_all rfl) (wp_fld0 hF Try.underlying4 rfl (by with_unfolding_all exact ⟨_, rfl, rfl⟩) (by first | with_unfolding_all rfl | assumption) ?_)) | ((with_reducible refine lst (by with_unfolding_all rfl) (wp_fst0 hF (by with_unfolding_all exact ⟨_, _, rfl, rfl, rfl⟩) (by kernel_rfl) rfl rfl (by first | decide | (simp; done) | (simp; omega)) rfl ?_)); intro w1 hF1 hz1))
      go_ret
      exact ⟨_, rfl, hF1.grown, hF1.heap0, ⟨A, n, c, l, false, rfl, hr0, hnc, hn, box rfl⟩⟩
end Go.Proofs.Ytcnjnkkdidpjiaa

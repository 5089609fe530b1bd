/-
  Layer 19: the walks of the program's reader: texts and sums.
-/
import Derived.Test.YtcnjnkkdidpjiaaJ06
import Derived.Test.YtcnjnkkdidpjiaaJ07
import Derived.Test.YtcnjnkkdidpjiaaJ11
import Derived.StillTailTactics
namespace Go.Proofs.Ytcnjnkkdidpjiaa
open Go.RowKit

set_option maxRecDepth 20000 in
set_option maxHeartbeats 800000 in
theorem rdText_any (B g N : Nat) (s : Option (List UInt8)) (cs : List Value) (most : Int) (w0 w : World) (hb : Below B w0 w) (hB : B ≤ w0.heap.size) (hh : w.heap[g]? = some (.cells cs.toArray 72 (0, 0))) (hR : RdrAt w0 B N s cs) (hN : N ≤ 140737488355000) (hmo : most ≤ 9223372036854775807) :
    Calls Try.prog 31 #[.pointer (some ⟨g, 0, none⟩), .int .i64 most] w (LeftB w 72 g 5 (rText most s).1 (RdrAt w0 B N (rText most s).2)) := by
  obtain ⟨A, n, c, l, ok, rfl, hr0, hnc, hn, hs⟩ := hR.ex
  have hF := Fr.one hh
  have hrB := hr0.below hb
  have hBw : B ≤ w.heap.size := Nat.le_trans hB hb.size
  have hr := hrB.wide hBw
  have hrc := box (readText_any A n c l most w (by omega) hnc hmo hr)
  have hl := hr.bytes_len
  cases ok with
  | false =>
    obtain rfl : s = none := hs.out
    go_enter Try.func31, Try.ntmps31
    go_wp2_with (first | (with_reducible refine lst (by with_unfolding_all rfl) (wp_fld0 hF Try.underlying23 rfl (by with_unfolding_all exact ⟨_, rfl, rfl⟩) (by first | with_unfolding_all rfl | assumption) ?_)))
    refine hrc.out.mono ?_
    rintro e w1 ⟨v1, rfl, hown1, hb1⟩
    have hFF := hF.call hb1
    go_wp2_with (first | (with_reducible refine lst (by with_unfolding_all rfl) (wp_fld0 hFF Try.underlying23 rfl (by with_unfolding_all exact ⟨_, rfl, rfl⟩) (by first | with_unfolding_all rfl | assumption) ?_)) | (with_reducible refine lst (by with_unfolding_all rfl) (wp_fld0 hFF Try.underlying4 rfl (by with_unfolding_all exact ⟨_, rfl, rfl⟩) (by first | with_unfolding_all rfl | assumption) ?_)) | ((with_reducible refine lst (by with_unfolding_all rfl) (wp_fst0 hFF (by with_unfolding_all exact ⟨_, _, rfl, rfl, rfl⟩) (by kernel_rfl) rfl rfl (by first | decide | (simp; done) | (simp; omega)) rfl ?_)); intro w2 hF2 hz2))
    go_ret
    exact ⟨_, _, rfl, OwnB.nil _ _ _, hF2.grown, hF2.heap0, ⟨A, n, c, l, false, rfl, hr0, hnc, hn, box rfl⟩⟩
  | true =>
    obtain rfl : s = some l := hs.out
    have hrd : rText most (some l) = if (rdt l most).2.2 ≠ 0 then ([], none) else ((rdt l most).1, some (l.drop (rdt l most).2.1)) := rfl
    have herr := rdt_err l most
    have hu := rdt_snd l most
    rw [hl] at hu
    generalize rdt l most = r at *
    obtain ⟨x, u, er⟩ := r
    simp only [] at hrd herr hu hrc
    by_cases h0 : er = 0
    · subst h0
      rw [if_neg (by omega)] at hrd
      rw [hrd]
      clear hrd
      go_enter Try.func31, Try.ntmps31
      go_wp2_with (first | (with_reducible refine lst (by with_unfolding_all rfl) (wp_fld0 hF Try.underlying23 rfl (by with_unfolding_all exact ⟨_, rfl, rfl⟩) (by first | with_unfolding_all rfl | assumption) ?_)))
      refine hrc.out.mono ?_
      rintro e w1 ⟨v1, rfl, hown1, hb1⟩
      have hFF := hF.gotB hb1 hown1
      have hrB1 := hrB.below (hb1.mono hBw)
      go_wp2_with (first | (with_reducible refine lst (by with_unfolding_all rfl) (wp_fld1 hFF Try.underlying23 rfl (by with_unfolding_all exact ⟨_, rfl, rfl⟩) (by first | with_unfolding_all rfl | assumption) ?_)) | (with_reducible refine lst (by with_unfolding_all rfl) (wp_fld1 hFF Try.underlying4 rfl (by with_unfolding_all exact ⟨_, rfl, rfl⟩) (by first | with_unfolding_all rfl | assumption) ?_)) | ((with_reducible refine lst (by with_unfolding_all rfl) (wp_fst1 hFF (by with_unfolding_all exact ⟨_, _, rfl, rfl, rfl⟩) (by kernel_rfl) rfl rfl (by first | decide | (simp; done) | (simp; omega)) rfl ?_)); intro w3 hF3 hz3) | ((with_reducible refine lst (by with_unfolding_all rfl) (wp_cutB T_u8 hrB1 hnc (lo := (some (u:Int))) (hi := none) (mx := none) ?_ (l := u) (h := n) (m := c) (by first | (simp; done) | (simp; omega)) (by first | (simp; done) | (simp; omega)) (by first | (simp; done) | (simp; omega)) (by simp) (by omega) (by omega) (by omega) (by omega) ?_)); exact ⟨_, _, _, _, .i64, .i64, .i64, rfl, rfl, rfl, rfl, rfl⟩; intro A2 c2 hr2 hc2 hc3))
      go_ret
      rw [List.take_of_length_le (by omega)] at hr2
      exact ⟨_, _, rfl, hF3.bytes0, hF3.tail.grown, hF3.heap1, ⟨A2, n - u, c2, l.drop u, true, rfl, hr2.same (fun k hk => ((hb1.block k (Nat.lt_of_lt_of_le hk hBw)).trans (hb.block k hk)).symm), hc2, by omega, box rfl⟩⟩
    · have hne : ((er : Int) != 0) = true := by simp; omega
      rw [if_pos h0] at hrd
      rw [hrd]
      clear hrd hu
      go_enter Try.func31, Try.ntmps31
      go_wp2_with (first | (with_reducible refine lst (by with_unfolding_all rfl) (wp_fld0 hF Try.underlying23 rfl (by with_unfolding_all exact ⟨_, rfl, rfl⟩) (by first | with_unfolding_all rfl | assumption) ?_)))
      refine hrc.out.mono ?_
      rintro e w1 ⟨v1, rfl, hown1, hb1⟩
      have hFF := hF.call hb1
      go_wp2_with (first | (with_reducible refine lst (by with_unfolding_all rfl) (wp_fld0 hFF Try.underlying23 rfl (by with_unfolding_all exact ⟨_, rfl, rfl⟩) (by first | with_unfolding_all rfl | assumption) ?_)) | (with_reducible refine lst (by with_unfolding_all rfl) (wp_fld0 hFF Try.underlying4 rfl (by with_unfolding_all exact ⟨_, rfl, rfl⟩) (by first | with_unfolding_all rfl | assumption) ?_)) | ((with_reducible refine lst (by with_unfolding_all rfl) (wp_fst0 hFF (by with_unfolding_all exact ⟨_, _, rfl, rfl, rfl⟩) (by kernel_rfl) rfl rfl (by first | decide | (simp; done) | (simp; omega)) rfl ?_)); intro w2 hF2 hz2))
      go_ret
      exact ⟨_, _, rfl, OwnB.nil _ _ _, hF2.grown, hF2.heap0, ⟨A, n, c, l, false, rfl, hr0, hnc, hn, box rfl⟩⟩

set_option maxRecDepth 20000 in
set_option maxHeartbeats 800000 in
theorem rdSum_any (B g N : Nat) (s : Option (List UInt8)) (cs : List Value) (w0 w : World) (hb : Below B w0 w) (hB : B ≤ w0.heap.size) (hg : B ≤ g) (hh : w.heap[g]? = some (.cells cs.toArray 72 (0, 0))) (hR : RdrAt w0 B N s cs) :
    Calls Try.prog 32 #[.pointer (some ⟨g, 0, none⟩)] w (Left w 72 g (.agg ((rSum s).1.map bv).toArray) (RdrAt w0 B N (rSum s).2)) := by
  obtain ⟨A, n, c, l, ok, rfl, hr0, hnc, hn, hs⟩ := hR.ex
  have hF := Fr.one hh
  have hrB := hr0.below hb
  have hBw : B ≤ w.heap.size := Nat.le_trans hB hb.size
  have hl := hrB.bytes_len
  have hz : zeros.length = 32 := by simp [zeros]
  cases ok with
  | false =>
    obtain rfl : s = none := hs.out
    go_enter Try.func32, Try.ntmps32
    go_wp2_with (first | ((with_reducible refine lst (by with_unfolding_all rfl) (wp_falloc hF (cs := (zeros.map bv)) (z := .agg (List.toArray ((zeros.map bv)))) rfl (by kernel_rfl) (by with_unfolding_all rfl) ?_)); intro w1 g1 hF1 hz1) | (with_reducible refine lst (by with_unfolding_all rfl) (wp_fld1 hF1 Try.underlying4 rfl (by with_unfolding_all exact ⟨_, rfl, rfl⟩) (by first | with_unfolding_all rfl | assumption) ?_)) | ((with_reducible refine lst (by with_unfolding_all rfl) (wp_fst1 hF1 (by with_unfolding_all exact ⟨_, _, rfl, rfl, rfl⟩) (by kernel_rfl) rfl rfl (by first | decide | (simp; done) | (simp; omega)) rfl ?_)); intro w2 hF2 hz2) | (with_reducible refine lst (by with_unfolding_all rfl) (wp_fldA0 hF2 Try.underlying29 rfl (by with_unfolding_all exact ⟨_, rfl, rfl⟩) (ds := (zeros.map bv)) (by kernel_rfl) (take_all _) ?_)) | ((with_reducible refine lst (by with_unfolding_all rfl) (wp_fstA0 hF2 (by with_unfolding_all exact ⟨_, _, rfl, rfl, rfl⟩) (by kernel_rfl) (bv_one _) (by simp) (spl_all rfl) ?_)); intro w3 hF3 hz3))
    (try simp only [Exit.inBlock, Exit.then])
    refine bodyPost_ret (results_cellF_0 hF3 rfl _ rfl Try.underlying29 rfl (by kernel_rfl)) rfl ?_
    exact ⟨_, rfl, hF3.tail.grown, hF3.heap1, ⟨A, n, c, l, false, rfl, hr0, hnc, hn, box rfl⟩⟩
  | true =>
    obtain rfl : s = some l := hs.out
    have hrd : rSum (some l) = if l.length < 32 then (zeros, none) else (l.take 32, some (l.drop 32)) := rfl
    rw [hl] at hrd
    by_cases h32 : n < 32
    · rw [if_pos h32] at hrd
      rw [hrd]
      clear hrd
      go_enter Try.func32, Try.ntmps32
      go_wp2_with (first | ((with_reducible refine lst (by with_unfolding_all rfl) (wp_falloc hF (cs := (zeros.map bv)) (z := .agg (List.toArray ((zeros.map bv)))) rfl (by kernel_rfl) (by with_unfolding_all rfl) ?_)); intro w1 g1 hF1 hz1) | (with_reducible refine lst (by with_unfolding_all rfl) (wp_fld1 hF1 Try.underlying4 rfl (by with_unfolding_all exact ⟨_, rfl, rfl⟩) (by first | with_unfolding_all rfl | assumption) ?_)) | (with_reducible refine lst (by with_unfolding_all rfl) (wp_fld1 hF1 Try.underlying23 rfl (by with_unfolding_all exact ⟨_, rfl, rfl⟩) (by first | with_unfolding_all rfl | assumption) ?_)) | ((with_reducible refine lst (by with_unfolding_all rfl) (wp_fst1 hF1 (by with_unfolding_all exact ⟨_, _, rfl, rfl, rfl⟩) (by kernel_rfl) rfl rfl (by first | decide | (simp; done) | (simp; omega)) rfl ?_)); intro w2 hF2 hz2) | (with_reducible refine lst (by with_unfolding_all rfl) (wp_fldA0 hF2 Try.underlying29 rfl (by with_unfolding_all exact ⟨_, rfl, rfl⟩) (ds := (zeros.map bv)) (by kernel_rfl) (take_all _) ?_)) | ((with_reducible refine lst (by with_unfolding_all rfl) (wp_fstA0 hF2 (by with_unfolding_all exact ⟨_, _, rfl, rfl, rfl⟩) (by kernel_rfl) (bv_one _) (by simp) (spl_all rfl) ?_)); intro w3 hF3 hz3))
      (try simp only [Exit.inBlock, Exit.then])
      refine bodyPost_ret (results_cellF_0 hF3 rfl _ rfl Try.underlying29 rfl (by kernel_rfl)) rfl ?_
      exact ⟨_, rfl, hF3.tail.grown, hF3.heap1, ⟨A, n, c, l, false, rfl, hr0, hnc, hn, box rfl⟩⟩
    · rw [if_neg h32] at hrd
      rw [hrd]
      clear hrd
      have h32c : (c = 32) = False ∨ (c = 32) = True := by by_cases h : c = 32 <;> simp [h]
      obtain ⟨dg, hdg⟩ : ∃ dg, dg = l.take 32 := ⟨_, rfl⟩
      have hl3 : (dg.map bv).length = 32 := by rw [hdg]; simp; omega
      have hcp : spl (zeros.map bv) 0 (List.take 32 (l.map bv)) = dg.map bv := by rw [spl_all (by simp; omega), hdg, List.map_take]
      rw [← hdg]
      replace hdg := box hdg
      replace hl3 := box hl3
      replace hcp := box hcp
      go_enter Try.func32, Try.ntmps32
      go_wp2_with (first | ((with_reducible refine lst (by with_unfolding_all rfl) (wp_falloc hF (cs := (zeros.map bv)) (z := .agg (List.toArray ((zeros.map bv)))) rfl (by kernel_rfl) (by with_unfolding_all rfl) ?_)); intro w1 g1 hF1 hz1) | (with_reducible refine lst (by with_unfolding_all rfl) (wp_fld1 hF1 Try.underlying4 rfl (by with_unfolding_all exact ⟨_, rfl, rfl⟩) (by first | with_unfolding_all rfl | assumption) ?_)) | (with_reducible refine lst (by with_unfolding_all rfl) (wp_fld1 hF1 Try.underlying23 rfl (by with_unfolding_all exact ⟨_, rfl, rfl⟩) (by first | with_unfolding_all rfl | assumption) ?_)))
      have c0 := hF1.cell1 (off := 0) rfl
      go_still_tail 5, (by kernel_rfl)
      change wpList _ _ _ _ _ w1.drew
      have hFd := hF1.drew
      have hrd1 := hFd.rdBase hb hB hg hr0
      go_wp2_with (first | ((with_reducible refine lst (by with_unfolding_all rfl) (wp_fcopy0 Try.underlying23 (by kernel_rfl) hFd hrd1 (bv_one _) (by with_unfolding_all rfl) (by with_unfolding_all rfl) (by with_unfolding_all rfl) (by first | (simp; done) | (simp; omega)) hcp.out ?_)); intro w2 hF2 hz2) | (with_reducible refine lst (by with_unfolding_all rfl) (wp_fld1 hF2 Try.underlying23 rfl (by with_unfolding_all exact ⟨_, rfl, rfl⟩) (by first | with_unfolding_all rfl | assumption) ?_)) | ((with_reducible refine lst (by with_unfolding_all rfl) (wp_cutB T_u8 (hF2.rdBase hb hB hg hr0) hnc (lo := (some (32:Int))) (hi := none) (mx := none) ?_ (l := 32) (h := n) (m := c) (by first | (simp; done) | (simp; omega)) (by first | (simp; done) | (simp; omega)) (by first | (simp; done) | (simp; omega)) (by simp) (by omega) (by omega) (by omega) (by omega) ?_)); exact ⟨_, _, _, _, .i64, .i64, .i64, rfl, rfl, rfl, rfl, rfl⟩; intro A2 c2 hr2 hc2 hc3) | ((with_reducible refine lst (by with_unfolding_all rfl) (wp_fst1 hF2 (by with_unfolding_all exact ⟨_, _, rfl, rfl, rfl⟩) (by kernel_rfl) rfl rfl (by first | decide | (simp; done) | (simp; omega)) rfl ?_)); intro w3 hF3 hz3) | (with_reducible refine lst (by with_unfolding_all rfl) (wp_fldA0 hF3 Try.underlying29 rfl (by with_unfolding_all exact ⟨_, rfl, rfl⟩) (ds := (dg.map bv)) (by rw [hl3.out]; kernel_rfl) (take_all _) ?_)) | ((with_reducible refine lst (by with_unfolding_all rfl) (wp_fstA0 hF3 (by with_unfolding_all exact ⟨_, _, rfl, rfl, rfl⟩) (by rw [hl3.out]; kernel_rfl) (bv_one _) (by rw [hl3.out]; simp) (spl_all rfl) ?_)); intro w4 hF4 hz4))
      (try simp only [Exit.inBlock, Exit.then])
      refine bodyPost_ret (results_cellF_0 hF4 rfl _ rfl Try.underlying29 rfl (by rw [hl3.out]; kernel_rfl)) rfl ?_
      rw [List.take_of_length_le (by omega)] at hr2
      have hR' : RdrAt w0 B N (some (l.drop 32)) [.slice A2 (n - 32) c2, .bool true] := ⟨A2, n - 32, c2, l.drop 32, true, rfl, hr2.same (fun k hk => ((hF2.block k (Nat.lt_of_lt_of_le hk hBw) (by have hk : k < B := hk; simp; omega)).trans (hb.block k hk)).symm), hc2, by omega, box rfl⟩
      exact ⟨_, rfl, hF4.tail.grown, hF4.heap1, hR'⟩
end Go.Proofs.Ytcnjnkkdidpjiaa

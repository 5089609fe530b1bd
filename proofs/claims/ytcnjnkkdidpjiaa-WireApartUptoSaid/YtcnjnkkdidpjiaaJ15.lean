/-
  Layer 19: the walk of the document's reader: sums.
-/
import Derived.Test.YtcnjnkkdidpjiaaJ06
import Derived.BigQuiet
import Derived.Deep.QuietTactic
import Derived.StillTailTactics
namespace Go.Proofs.Ytcnjnkkdidpjiaa
open Go.RowKit

/-- What a loop that copies bytes has done. -/
def part (l m : List UInt8) (j : Nat) : List UInt8 := l.take j ++ m.drop j
theorem part_set {l m : List UInt8} {j : Nat} {x : UInt8} (hx : l[j]? = some x) (hm : j < m.length) : spl ((part l m j).map bv) j [.int .u8 (x.toNat : Int)] = (part l m (j + 1)).map bv := by
  have hl : j < l.length := (List.getElem?_eq_some_iff.1 hx).1
  have h1 : (part l m j).map bv = (l.take j).map bv ++ ([bv m[j]] ++ (m.drop (j + 1)).map bv) := by
    unfold part
    rw [List.map_append, List.drop_eq_getElem_cons hm]; rfl
  rw [h1, spl_at (q := [bv m[j]]) (ds := [.int .u8 (x.toNat : Int)]) (by simp; omega) rfl]
  unfold part
  rw [take_snoc hx, List.map_append, List.map_append, List.append_assoc]
  rfl
theorem part_0 (l m : List UInt8) : part l m 0 = m := by simp [part]
theorem part_all {l m : List UInt8} {j : Nat} (hj : m.length ≤ j) : part l m j = l.take j := by unfold part; rw [List.drop_of_length_le hj, List.append_nil]
theorem part_len {l m : List UInt8} {j : Nat} (hl : j ≤ l.length) (hm : j ≤ m.length) : (part l m j).length = m.length := by unfold part; simp; omega

set_option maxRecDepth 20000 in
set_option maxHeartbeats 1600000 in
theorem inDigest_any (g : Nat) (A : Option Addr) (n c : Nat) (l : List UInt8) (s : Option (List UInt8)) (cs : List Value) (w : World) (hh : w.heap[g]? = some (.cells cs.toArray 78 (0, 0))) (hI : InAt A n c l s cs) (hr : Rd w (fun k => k < w.heap.size ∧ k ∉ [g]) A 1 n (l.map bv)) (hn : n ≤ 140737488355000) :
    Calls Try.prog 35 #[.pointer (some ⟨g, 0, none⟩)] w (Left w 78 g (.agg ((rSum s).1.map bv).toArray) (InAt A n c l (rSum s).2)) := by
  obtain ⟨q, rfl, hq⟩ := hI.ex
  have hF := Fr.one hh
  have hz : zeros.length = 32 := by simp [zeros]
  rcases hq with ⟨rfl, hs⟩ | ⟨k, hk, rfl, hs⟩
  · obtain rfl : s = none := hs.out
    go_enter Try.func35, Try.ntmps35
    go_wp2_with (first | ((with_reducible refine lst (by with_unfolding_all rfl) (wp_falloc hF (cs := (zeros.map bv)) (z := .agg (List.toArray ((zeros.map bv)))) rfl (by kernel_rfl) (by with_unfolding_all rfl) ?_)); intro w1 g1 hF1 hz1) | ((with_reducible refine lst (by with_unfolding_all rfl) (wp_falloc hF1 (cs := (zeros.map bv)) (z := .agg (List.toArray ((zeros.map bv)))) rfl (by kernel_rfl) (by with_unfolding_all rfl) ?_)); intro w2 g2 hF2 hz2))
    have c0 := hF2.cell2 (off := 0) rfl
    have c1 := hF2.cell2 (off := 1) rfl
    go_quiet (fail)
    have hFd := fun q => hF2.drewN q
    go_wp2_with (first | ((with_reducible refine lst (by with_unfolding_all rfl) (wp_fst2 (hFd _) (by with_unfolding_all exact ⟨_, _, rfl, rfl, rfl⟩) (by kernel_rfl) rfl rfl (by first | decide | (simp; done) | (simp; omega)) rfl ?_)); intro w3 hF3 hz3) | (with_reducible refine lst (by with_unfolding_all rfl) (wp_fldA0 hF3 Try.underlying22 rfl (by with_unfolding_all exact ⟨_, rfl, rfl⟩) (ds := (zeros.map bv)) (by kernel_rfl) (take_all _) ?_)) | ((with_reducible refine lst (by with_unfolding_all rfl) (wp_fstA1 hF3 (by with_unfolding_all exact ⟨_, _, rfl, rfl, rfl⟩) (by kernel_rfl) (bv_one _) (by simp) (spl_all rfl) ?_)); intro w4 hF4 hz4))
    (try simp only [Exit.inBlock, Exit.then])
    refine bodyPost_ret (results_cellF_1 hF4 rfl _ rfl Try.underlying22 rfl (by kernel_rfl)) rfl ?_
    exact ⟨_, rfl, hF4.tail.tail.grown, hF4.heap2, ⟨-1, rfl, .inl ⟨rfl, box rfl⟩⟩⟩
  · obtain rfl : s = some (l.drop k) := hs.out
    have hl := hr.bytes_len
    have hld : (l.drop k).length = n - k := by rw [List.length_drop]; omega
    have hrd : rSum (some (l.drop k)) = if (l.drop k).length < 32 then (zeros, none) else ((l.drop k).take 32, some ((l.drop k).drop 32)) := rfl
    rw [List.drop_drop, hld] at hrd
    by_cases h32 : n - k < 32
    · rw [if_pos h32] at hrd
      rw [hrd]
      clear hrd
      have e1 : IntKind.i64.wrap ((n : Int) - (k : Int)) = (n : Int) - (k : Int) := IntWalk.i64_in _ (by omega)
      have e2 : decide ((n : Int) - (k : Int) < 32) = true := by simp; omega
      go_enter Try.func35, Try.ntmps35
      go_wp2_with (first | ((with_reducible refine lst (by with_unfolding_all rfl) (wp_falloc hF (cs := (zeros.map bv)) (z := .agg (List.toArray ((zeros.map bv)))) rfl (by kernel_rfl) (by with_unfolding_all rfl) ?_)); intro w1 g1 hF1 hz1) | ((with_reducible refine lst (by with_unfolding_all rfl) (wp_falloc hF1 (cs := (zeros.map bv)) (z := .agg (List.toArray ((zeros.map bv)))) rfl (by kernel_rfl) (by with_unfolding_all rfl) ?_)); intro w2 g2 hF2 hz2))
      have c0 := hF2.cell2 (off := 0) rfl
      have c1 := hF2.cell2 (off := 1) rfl
      go_quiet (fail)
      have hFd := fun q => hF2.drewN q
      go_wp2_with (first | ((with_reducible refine lst (by with_unfolding_all rfl) (wp_fst2 (hFd _) (by with_unfolding_all exact ⟨_, _, rfl, rfl, rfl⟩) (by kernel_rfl) rfl rfl (by first | decide | (simp; done) | (simp; omega)) rfl ?_)); intro w3 hF3 hz3) | (with_reducible refine lst (by with_unfolding_all rfl) (wp_fldA0 hF3 Try.underlying22 rfl (by with_unfolding_all exact ⟨_, rfl, rfl⟩) (ds := (zeros.map bv)) (by kernel_rfl) (take_all _) ?_)) | ((with_reducible refine lst (by with_unfolding_all rfl) (wp_fstA1 hF3 (by with_unfolding_all exact ⟨_, _, rfl, rfl, rfl⟩) (by kernel_rfl) (bv_one _) (by simp) (spl_all rfl) ?_)); intro w4 hF4 hz4))
      (try simp only [Exit.inBlock, Exit.then])
      refine bodyPost_ret (results_cellF_1 hF4 rfl _ rfl Try.underlying22 rfl (by kernel_rfl)) rfl ?_
      exact ⟨_, rfl, hF4.tail.tail.grown, hF4.heap2, ⟨-1, rfl, .inl ⟨rfl, box rfl⟩⟩⟩
    · rw [if_neg h32] at hrd
      rw [hrd]
      clear hrd
      have e1 : IntKind.i64.wrap ((n : Int) - (k : Int)) = (n : Int) - (k : Int) := IntWalk.i64_in _ (by omega)
      have e2 : decide ((n : Int) - (k : Int) < 32) = false := by simp; omega
      go_enter Try.func35, Try.ntmps35
      go_wp2_with (first | ((with_reducible refine lst (by with_unfolding_all rfl) (wp_falloc hF (cs := (zeros.map bv)) (z := .agg (List.toArray ((zeros.map bv)))) rfl (by kernel_rfl) (by with_unfolding_all rfl) ?_)); intro w1 g1 hF1 hz1) | ((with_reducible refine lst (by with_unfolding_all rfl) (wp_falloc hF1 (cs := (zeros.map bv)) (z := .agg (List.toArray ((zeros.map bv)))) rfl (by kernel_rfl) (by with_unfolding_all rfl) ?_)); intro w2 g2 hF2 hz2))
      have c0 := hF2.cell2 (off := 0) rfl
      have c1 := hF2.cell2 (off := 1) rfl
      go_quiet (fail)
      have hFd := fun q => hF2.drewN q
      clear c0 c1 e1 e2
      go_wp2_with fail
      obtain ⟨L, hL⟩ : ∃ L, L = l.drop k := ⟨_, rfl⟩
      go_loopw [4] (fun i wr => ∃ (j : Nat), j ≤ 32 ∧ i = .int .i64 j ∧ Fr [g] w wr [.blk g2 22 ((part L zeros j).map bv), .blk g1 22 (zeros.map bv), .blk g 78 [.slice A n c, .int .i64 (k : Int)]]) (fun i _ => 32 - (intOf i).toNat)
      case atStart => exact ⟨0, by omega, rfl, by rw [part_0]; exact hFd _⟩
      case round =>
        clear hFd hF2 hF1
        obtain ⟨j, hj, rfl, hF2⟩ := hrel
        by_cases hlt : j < 32
        · have hrr := hF2.rdKeep hr
          obtain ⟨ad, x, rfl, hx, hcx⟩ := hrr.atB (k := k + j) (by omega)
          have hxb := x.toNat_lt
          have hxL : L[j]? = some x := by rw [hL, List.getElem?_drop]; exact hx
          have hps := part_set (m := zeros) hxL (by omega)
          replace hx := box hx
          replace hxL := box hxL
          replace hps := box hps
          replace hL := box hL
          have c0 := hF2.cell2 (off := 0) rfl
          have c1 := hF2.cell2 (off := 1) rfl
          have e1 : IntKind.i64.wrap ((k : Int) + (j : Int)) = (k : Int) + (j : Int) := IntWalk.i64_in _ (by omega)
          have e3 : (0 : Int) ≤ (k : Int) + (j : Int) := by omega
          have e4 : (k : Int) + (j : Int) < (n : Int) := by omega
          have e5 : ((k : Int) + (j : Int)).toNat = k + j := by omega
          go_wp2_with fail
          go_still_tail 14, (by kernel_rfl)
          change wpList _ _ _ _ _ wr.drew
          have hFd := hF2.drew
          have hpl : (part L zeros j).length = 32 := by rw [part_len (by rw [hL.out]; omega) (by omega), hz]
          clear c0 c1 e1 e3 e4 e5 hcx
          go_wp2_with (first | ((with_reducible refine lst (by with_unfolding_all rfl) (wp_fst0 hFd (by with_unfolding_all exact ⟨_, _, rfl, rfl, rfl⟩) (by kernel_rfl) rfl rfl (by first | decide | (simp; done) | (simp; omega)) hps.out ?_)); intro w3 hF3 hz3))
          go_roundw
          case rel => exact ⟨j + 1, by omega, by go_num, hF3⟩
          case measure => simp [intOf]; omega
        · obtain rfl : j = 32 := by omega
          have hpa : part L zeros 32 = (l.drop k).take 32 := by rw [part_all (by omega), hL]
          rw [hpa] at hF2
          obtain ⟨dg, hdg⟩ : ∃ dg, dg = (l.drop k).take 32 := ⟨_, rfl⟩
          have hl3 : (dg.map bv).length = 32 := by rw [hdg]; simp; omega
          rw [← hdg] at hF2 ⊢
          replace hdg := box hdg
          replace hl3 := box hl3
          clear hpa hL
          go_wp2_with (first | (with_reducible refine lst (by with_unfolding_all rfl) (wp_fld2 hF2 Try.underlying3 rfl (by with_unfolding_all exact ⟨_, rfl, rfl⟩) (by first | with_unfolding_all rfl | assumption) ?_)) | ((with_reducible refine lst (by with_unfolding_all rfl) (wp_fst2 hF2 (by with_unfolding_all exact ⟨_, _, rfl, rfl, rfl⟩) (by kernel_rfl) rfl rfl (by first | decide | (simp; done) | (simp; omega)) rfl ?_)); intro w3 hF3 hz3) | (with_reducible refine lst (by with_unfolding_all rfl) (wp_fldA0 hF3 Try.underlying22 rfl (by with_unfolding_all exact ⟨_, rfl, rfl⟩) (ds := (dg.map bv)) (by rw [hl3.out]; kernel_rfl) (take_all _) ?_)) | ((with_reducible refine lst (by with_unfolding_all rfl) (wp_fstA1 hF3 (by with_unfolding_all exact ⟨_, _, rfl, rfl, rfl⟩) (by rw [hl3.out]; kernel_rfl) (bv_one _) (by rw [hl3.out]; simp; omega) (spl_all (by rw [hl3.out]; simp; omega)) ?_)); intro w4 hF4 hz4))
          (try simp only [Exit.inBlock, Exit.then])
          refine bodyPost_ret (results_cellF_1 hF4 rfl _ rfl Try.underlying22 rfl (by rw [hl3.out]; kernel_rfl)) rfl ?_
          exact ⟨_, ret1 (by rw [hdg.out]), hF4.tail.tail.grown, hF4.heap2, ⟨_, rfl, .inr ⟨k + 32, by omega, by omega, box rfl⟩⟩⟩
end Go.Proofs.Ytcnjnkkdidpjiaa

/-
  Walks of layer 1: the bytes of a number.
-/
import Derived.Test.YtinmlamdhibeeaaW4
namespace Go.Proofs.Ytinmlamdhibeeaa
open Go.RowKit

def putS (n : Nat) (size : Int) : List UInt8 := if 0 ≤ size ∧ size ≤ 8 then putL n size.toNat else []
theorem putL_len (n : Nat) : ∀ k, (putL n k).length = k
  | 0 => rfl
  | k + 1 => by rw [putL, List.length_cons, putL_len n k]
theorem put_set (n s i : Nat) (d : UInt8) (hi : i < s) (hd : d.toNat = n / 2 ^ (8 * i) % 256) :
    (List.replicate (s - i) 0 ++ putL n i).set (s - 1 - i) d = List.replicate (s - (i + 1)) 0 ++ putL n (i + 1) := by
  have h1 : s - i = (s - (i + 1)) + 1 := by omega
  rw [h1, List.replicate_succ', List.append_assoc, List.set_append_right _ _ (by rw [List.length_replicate]; omega), List.length_replicate, show s - 1 - i - (s - (i + 1)) = 0 by omega]
  have h2 : d = UInt8.ofNat (n / 2 ^ (8 * i) % 256) := by rw [← hd]; simp
  rw [putL, ← h2]
  rfl

set_option maxRecDepth 20000 in
set_option maxHeartbeats 400000 in
theorem put_any (n : Nat) (size : Int) (w : World) :
    Calls Try.prog 24 #[.int .u64 n, .int .i64 size] w fun e w' => ∃ v, e = .returned v ∧ OwnB w' w.heap.size 5 v (putS n size) ∧ Below w.heap.size w w' := by
  by_cases hs : 0 ≤ size ∧ size ≤ 8
  · rw [putS, if_pos hs]
    obtain ⟨s, rfl⟩ := Int.eq_ofNat_of_zero_le hs.1
    rw [Int.toNat_natCast]
    have hs8 : s ≤ 8 := by omega
    have hB0 : w.heap.size ≤ w.heap.size := Nat.le_refl _
    have hb0 := Below.refl w.heap.size w
    clear hs
    go_enter Try.func24, Try.ntmps24
    go_wp2_with (first | (at_make; go_must (with_reducible refine lst (by with_unfolding_all rfl) (wp_makeB T_u8 hb0 hB0 (by with_unfolding_all exact ⟨_, _, _, _, rfl, rfl, rfl⟩) (n := s) (by omega) (by omega) ?_); intro A1 c1 w1 hown1 hb1 hB1 hg1)))
    obtain ⟨W, rfl⟩ : ∃ W : World, W = w1 := ⟨_, rfl⟩
    go_loopw [16] (fun i wr => ∃ k : Nat, k ≤ s ∧ i = .int .i64 k ∧ OwnB wr w.heap.size 5 (.slice A1 s c1) (List.replicate (s - k) 0 ++ putL n k) ∧ Below w.heap.size w wr) (fun i _ => s - (intOf i).toNat)
    case atStart => exact ⟨0, by omega, rfl, by rw [putL, List.append_nil]; exact hown1, hb1⟩
    case round =>
      obtain ⟨k, hk, rfl, hown, hb⟩ := hrel
      have hr := hown.rd
      by_cases hlt : k < s
      · have h1 : (((s : Int) - 1 - (k : Int)).toNat) = s - 1 - k := by omega
        go_wp2_with (first | (with_reducible refine lst (by with_unfolding_all rfl) (wp_indexAddr T_u8 hr (by with_unfolding_all exact ⟨_, _, _, _, rfl, rfl, rfl⟩) (by omega) (by omega) ?_)) | ((with_reducible refine lst (by with_unfolding_all rfl) (wp_storeB I_u8 hown hb (by with_unfolding_all exact ⟨_, _, rfl, rfl, rfl⟩) (by first | omega | (simp; omega)) ?_ ?_)); exact byte_of (by omega) (by omega); intro w1 d1 hd1 hown1 hb1 hs1))
        go_roundw
        rw [Nat.mul_one, h1, put_set n s k d1 hlt (by have := hd1.out; have h3 : ((n : Int) / 2 ^ (8 * k)) = ((n / 2 ^ (8 * k) : Nat) : Int) := by simp
                                                      rw [h3] at this; omega)] at hown1
        case rel => exact ⟨k + 1, by omega, by go_num, hown1, hb1⟩
        case measure => simp [intOf]; omega
      · go_wp2
        go_ret
        obtain rfl : k = s := by omega
        rw [Nat.sub_self, List.replicate_zero, List.nil_append] at hown
        exact ⟨_, rfl, hown, hb⟩
  · rw [putS, if_neg hs]
    go_enter Try.func24, Try.ntmps24
    go_wp2
    all_goals go_ret
    all_goals exact ⟨_, rfl, OwnB.nil _ _ _, Below.refl _ _⟩

set_option maxRecDepth 20000 in
set_option maxHeartbeats 400000 in
theorem rput_any (n : Nat) (size : Int) (w : World) :
    Calls Try.prog 36 #[.int .u64 n, .int .i64 size] w fun e w' => ∃ v, e = .returned v ∧ OwnB w' w.heap.size 5 v (putS n size) ∧ Below w.heap.size w w' := by
  by_cases hs : 1 ≤ size ∧ size ≤ 8
  · rw [putS, if_pos ⟨by omega, hs.2⟩]
    obtain ⟨s, rfl⟩ := Int.eq_ofNat_of_zero_le (show 0 ≤ size by omega)
    rw [Int.toNat_natCast]
    have hs8 : s ≤ 8 := by omega
    have hs1 : 1 ≤ s := by omega
    clear hs
    go_enter Try.func36, Try.ntmps36
    go_wp2
    go_loopw [5, 6] (fun v i wr => ∃ k : Nat, ∃ l, k ≤ s ∧ i = .int .i64 ((k : Int) - 1) ∧ Box (l ++ putL n k = putL n s) ∧ OwnB wr w.heap.size 5 v l ∧ Below w.heap.size w wr ∧ w.heap.size ≤ wr.heap.size) (fun _ i _ => (intOf i + 1).toNat)
    case atStart => exact ⟨s, [], by omega, rfl, box rfl, OwnB.nil _ _ _, Below.refl _ _, Nat.le_refl _⟩
    case round =>
      obtain ⟨k, l, hk, rfl, HL, hown, hb, hB⟩ := hrel
      have hroom : l.length + 1 ≤ 140737488355328 := by
        have h1 := congrArg List.length HL.out
        rw [List.length_append, putL_len, putL_len] at h1; omega
      by_cases hlt : 0 < k
      · obtain ⟨m, rfl⟩ : ∃ m, k = m + 1 := ⟨k - 1, by omega⟩
        clear hlt
        go_wp2_with (first | (at_builtin; go_must (with_reducible refine lst (by with_unfolding_all rfl) (wp_appB1 T_u8 hown hb (by with_unfolding_all exact ⟨_, _, rfl, rfl, rfl⟩) hroom hB ?_ ?_); exact byte_of (by omega) (by omega); intro v' w1 c hc hown1 hb1 hB1)))
        go_roundw
        have h3 : ((n : Int) / 2 ^ (8 * m)) = ((n / 2 ^ (8 * m) : Nat) : Int) := by simp
        have h4 : UInt8.ofNat (n / 2 ^ (8 * m) % 256) = c := by
          have := hc.out; rw [h3] at this
          rw [show n / 2 ^ (8 * m) % 256 = c.toNat by omega]; simp
        have h5 : (l ++ [c]) ++ putL n m = putL n s := by rw [← HL.out, putL, h4, List.append_assoc]; rfl
        case rel => exact ⟨m, _, by omega, rfl, box h5, hown1, hb1, hB1⟩
        case measure => (first | (simp [intOf]; done) | (simp [intOf]; omega))
      · obtain rfl : k = 0 := by omega
        have hl := HL.out
        rw [putL, List.append_nil] at hl
        replace hl := box hl
        go_wp2
        go_ret
        exact ⟨_, rfl, by rw [← hl.out]; exact hown, hb⟩
  · have he : putS n size = [] := by
      rw [putS]
      split
      · rw [show size.toNat = 0 by omega]; rfl
      · rfl
    rw [he]
    go_enter Try.func36, Try.ntmps36
    go_wp2
    all_goals go_ret
    all_goals exact ⟨_, rfl, OwnB.nil _ _ _, Below.refl _ _⟩
end Go.Proofs.Ytinmlamdhibeeaa

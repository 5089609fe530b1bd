/-
  The walk of octet.Get.
-/
import Derived.Test.YtpdbjhgphgcjoaaDoorJ10
import Derived.Test.YtpdbjhgphgcjoaaDoorJ12
namespace Go.Proofs.YtpdbjhgphgcjoaaDoor
open Go.RowKit

set_option maxRecDepth 20000 in
set_option maxHeartbeats 400000 in
theorem get_any (A : Option Addr) (n c : Nat) (l : List UInt8) (w : World) (hm : n ≤ 9223372036854775807) (hr : Rd w (· < w.heap.size) A 1 n (l.map bv)) :
    Calls Tryd.prog 32 #[.slice A n c] w fun e w' => e = .returned (.tuple #[.int .u64 (if n ≤ 8 then (getN l : Nat) else 0 : Nat), .bool (decide (n ≤ 8))]) ∧ w = w' := by
  have hl := box hr.bytes_len
  by_cases h8 : n ≤ 8
  · rw [if_pos h8, decide_eq_true h8]
    go_enter Tryd.func32, Tryd.ntmps32
    go_wp2
    go_loop [4, 12] (fun x i => ∃ k : Nat, k ≤ n ∧ i = .int .i64 k ∧ x = .int .u64 (getN (l.take k))) (fun _ i => n - (intOf i).toNat)
    case atStart => exact ⟨0, by omega, rfl, rfl⟩
    case round =>
      obtain ⟨k, hk, rfl, rfl⟩ := hrel
      by_cases hlt : k < n
      · obtain ⟨d, hd⟩ : ∃ d, l[k]? = some d := ⟨l[k]'(by have := hl.out; omega), by simp⟩
        obtain ⟨C, hC⟩ : ∃ C, C = getN (l.take k) := ⟨_, rfl⟩
        have hx := getN_next (show k < 8 by omega) hd
        rw [← hC] at hx ⊢
        have dlt : d.toNat < 256 := d.toNat_lt
        have hg := get_mul C d hx.2.1
        replace hd := box hd
        replace hx := box hx
        replace hC := box hC
        obtain ⟨hg1, hg2, hg3⟩ := hg
        go_wp2_with (first | (with_reducible refine lst (by with_unfolding_all rfl) (wp_indexAddr T_u8 hr (by with_unfolding_all exact ⟨_, _, _, _, rfl, rfl, rfl⟩) (by omega) (by omega) ?_)) | (with_reducible refine lst (by with_unfolding_all rfl) (wp_loadC hr hd Tryd.underlying5 rfl (by with_unfolding_all exact ⟨_, rfl, rfl⟩) (by first | (simp; done) | (simp; omega) | omega) ?_)))
        go_round
        case rel => exact ⟨k + 1, by omega, by go_num, by rw [hx.out.1]; go_num⟩
        case measure => simp [intOf]; omega
      · go_wp2
        go_ret2
        exact ⟨by rw [show l.take k = l from List.take_of_length_le (by have := hl.out; omega)]; rfl, rfl⟩
  · rw [if_neg h8, decide_eq_false h8]
    go_enter Tryd.func32, Tryd.ntmps32
    go_wp2
    go_ret2
    exact ⟨rfl, rfl⟩
end Go.Proofs.YtpdbjhgphgcjoaaDoor

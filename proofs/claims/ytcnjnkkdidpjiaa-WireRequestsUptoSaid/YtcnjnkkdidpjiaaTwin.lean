/-
  The walk of the document's Twin.
-/
import Derived.Test.YtcnjnkkdidpjiaaTy
namespace Go.Proofs.Ytcnjnkkdidpjiaa
open Go.RowKit

set_option maxRecDepth 20000 in
set_option maxHeartbeats 400000 in
theorem twin_any (A : Option Addr) (n c : Nat) (l : List UInt8) (w : World) (hm : n ≤ 140737488355327) (hr : Rd w (· < w.heap.size) A 1 n (l.map bv)) :
    Calls Try.prog 26 #[.slice A n c] w fun e w' => ∃ v, e = .returned v ∧ OwnB w' w.heap.size 5 v l ∧ Below w.heap.size w w' := by
  have hl := box hr.bytes_len
  go_enter Try.func26, Try.ntmps26
  go_wp2
  go_loopw [3, 4] (fun v i wr => ∃ k : Nat, k ≤ n ∧ i = .int .i64 k ∧ OwnB wr w.heap.size 5 v (l.take k) ∧ Below w.heap.size w wr ∧ w.heap.size ≤ wr.heap.size) (fun _ i _ => n - (intOf i).toNat)
  case atStart => exact ⟨0, by omega, rfl, OwnB.nil _ _ _, Below.refl _ _, Nat.le_refl _⟩
  case round =>
    obtain ⟨k, hk, rfl, hown, hb, hB⟩ := hrel
    have hr' := hr.below hb
    have hroom : (l.take k).length + 1 ≤ 140737488355328 := by rw [List.length_take]; omega
    by_cases hlt : k < n
    · go_wp2_with (first | (at_builtin; go_must (with_reducible refine lst (by with_unfolding_all rfl) (wp_appB1 T_u8 hown hb (by with_unfolding_all exact ⟨_, _, rfl, rfl, rfl⟩) hroom hB ?_ ?_); exact byte_of (by omega) (by omega); intro v' w1 c hc hown1 hb1 hB1)) | (with_reducible refine lst (by with_unfolding_all rfl) (wp_indexAddr T_u8 hr' (by with_unfolding_all exact ⟨_, _, _, _, rfl, rfl, rfl⟩) (by omega) (by omega) ?_)) | ((with_reducible refine lst (by with_unfolding_all rfl) (wp_loadB hr' Try.underlying5 rfl (by with_unfolding_all exact ⟨_, rfl, rfl⟩) (by omega) ?_)); intro d hd; (try simp only [Int.toNat_natCast, Nat.mul_one] at hd); replace hd := box hd; have dlt : d.toNat < 256 := d.toNat_lt))
      go_roundw
      have hcd := byte_eq hc
      subst hcd
      case rel => exact ⟨k + 1, by omega, by go_num, by rw [take_snoc hd.out]; exact hown1, hb1, hB1⟩
      case measure => simp [intOf]; omega
    · go_wp2
      go_ret
      exact ⟨_, rfl, by rw [List.take_of_length_le (by have := hl.out; omega)] at hown; exact hown, hb⟩
end Go.Proofs.Ytcnjnkkdidpjiaa

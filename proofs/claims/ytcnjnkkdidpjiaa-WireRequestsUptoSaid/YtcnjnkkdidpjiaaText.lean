/-
  The walk of octet.Text.
-/
import Derived.Test.YtcnjnkkdidpjiaaCount
namespace Go.Proofs.Ytcnjnkkdidpjiaa
open Go.RowKit

set_option maxRecDepth 20000 in
set_option maxHeartbeats 400000 in
theorem text_any (A : Option Addr) (n c : Nat) (l : List UInt8) (w : World) (hm : n ≤ 140737488355000) (hr : Rd w (· < w.heap.size) A 1 n (l.map bv)) :
    Calls Try.prog 24 #[.slice A n c] w fun e w' => ∃ v, e = .returned v ∧ OwnB w' w.heap.size 5 v (textL l) ∧ Below w.heap.size w w' := by
  have hl := hr.bytes_len
  have ht := box (show textL l = cnt n ++ l by rw [textL, hl])
  have hc64 : Box (n < 18446744073709551616) := box (by omega)
  have hlen := cnt_len64 hc64.out
  clear hl
  go_enter Try.func24, Try.ntmps24
  go_wp2_with fail
  refine (count_any n w hc64).mono ?_
  rintro e w1 ⟨v, rfl, hown, hb⟩
  have hr' := hr.below hb
  have hroom : (cnt n).length + n ≤ 140737488355328 := by omega
  have hB := hb.size
  go_wp2_with (first | (at_builtin; go_must (with_reducible refine lst (by with_unfolding_all rfl) (wp_appB T_u8 hown hb hr' (by with_unfolding_all exact ⟨_, _, rfl, rfl, rfl⟩) hroom hB ?_); intro v' w1 hown1 hb1 hg1 hB1)))
  go_ret
  exact ⟨_, rfl, by rw [ht.out]; exact hown1, hb1⟩
end Go.Proofs.Ytcnjnkkdidpjiaa

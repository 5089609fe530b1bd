/-
  OctetCrcs: the law's walk.
-/
import Derived.Test.YtinmlamdhibeeaaWB
namespace Go.Proofs.Ytinmlamdhibeeaa
open Go.RowKit

set_option maxRecDepth 20000 in
set_option maxHeartbeats 800000 in
theorem octetCrcs_any (A : Option Addr) (n c : Nat) (l : List UInt8) (w : World) (hm : n ≤ 9223372036854775807) (hr : Rd w (· < w.heap.size) A 1 n (l.map bv)) :
    Calls Try.prog 4 #[.slice A n c] w fun e w' => e = .returned (.bool true) ∧ Below w.heap.size w w' := by
  go_enter Try.func4, Try.ntmps4
  go_wp2_with fail
  refine (awake_any w).mono ?_
  rintro e w' ⟨rfl, hb⟩
  have hr' := (hr.below hb).mono (S' := (· < w'.heap.size)) (fun k hk => Nat.lt_of_lt_of_le hk hb.size)
  go_wp2_with fail
  refine (crc_any A n c l w' hm hr').mono ?_
  rintro e w' ⟨rfl, rfl⟩
  go_wp2_with fail
  refine (rcrc_any A n c l w' hm hr').mono ?_
  rintro e w' ⟨rfl, rfl⟩
  go_wp2
  go_ret
  exact ⟨rfl, hb⟩
end Go.Proofs.Ytinmlamdhibeeaa

/-
  OctetRots: the law's walk.
-/
import Derived.Test.YtinmlamdhibeeaaWB
namespace Go.Proofs.Ytinmlamdhibeeaa
open Go.RowKit

set_option maxRecDepth 20000 in
set_option maxHeartbeats 800000 in
theorem octetRots_any (X : Nat) (n : Int) (w : World) (hX : Box (X < 4294967296)) :
    Calls Try.prog 3 #[.int .u32 X, .int .i64 n] w fun e w' => e = .returned (.bool true) ∧ Below w.heap.size w w' := by
  have h31 := and31 n
  obtain ⟨k, hk, hnk⟩ : ∃ k : Nat, k < 32 ∧ n % 32 = (k : Int) := ⟨(n % 32).toNat, by omega, by omega⟩
  rw [hnk] at h31
  have e1 := box (rot_eq X k hX.out hk)
  have e2 := box (rot_back X k hX.out hk)
  have lt1 := box (rotN_lt X k hX.out)
  replace hnk := box hnk
  go_enter Try.func3, Try.ntmps3
  go_wp2_with fail
  refine (awake_any w).mono ?_
  rintro e w' ⟨rfl, hb⟩
  go_wp2_with fail
  refine (rot_any X n w' hX).mono ?_
  rintro e w' ⟨rfl, rfl⟩
  go_wp2_with fail
  refine (rrot_any X n w' hX).mono ?_
  rintro e w' ⟨rfl, rfl⟩
  rw [hnk.out, Int.toNat_natCast, ← e1.out]
  go_wp2_with fail
  refine (rot_any X n w' hX).mono ?_
  rintro e w' ⟨rfl, rfl⟩
  rw [hnk.out, Int.toNat_natCast]
  go_wp2_with fail
  refine (rot_any (rotN X k) (32 - (k : Int)) w' lt1).mono ?_
  rintro e w' ⟨rfl, rfl⟩
  rw [show ((32 - (k : Int)) % 32).toNat = (32 - k) % 32 by omega, e2.out]
  go_wp2
  go_ret
  exact ⟨rfl, hb⟩
end Go.Proofs.Ytinmlamdhibeeaa

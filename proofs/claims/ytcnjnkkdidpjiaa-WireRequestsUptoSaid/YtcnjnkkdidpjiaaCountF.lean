/-
  The walk of the document's Count.
-/
import Derived.Test.YtcnjnkkdidpjiaaTy
import Derived.Test.YtcnjnkkdidpjiaaCntP
namespace Go.Proofs.Ytcnjnkkdidpjiaa
open Go.RowKit

set_option maxRecDepth 20000 in
set_option maxHeartbeats 400000 in
theorem rcount_any (n : Nat) (w : World) (Hn : Box (n < 18446744073709551616)) :
    Calls Try.prog 30 #[.int .u64 n] w fun e w' => ∃ v, e = .returned v ∧ OwnB w' w.heap.size 5 v (cnt n) ∧ Below w.heap.size w w' := by
  go_enter Try.func30, Try.ntmps30
  go_wp2
  go_loopw [0, 3] (fun x v wr => ∃ m : Nat, ∃ l : List UInt8, Box (CntAt n m l) ∧ x = .int .u64 m ∧ OwnB wr w.heap.size 5 v l ∧ Below w.heap.size w wr ∧ w.heap.size ≤ wr.heap.size) (fun x _ _ => (intOf x).toNat)
  case atStart => exact ⟨n, [], ⟨Hn.out, Nat.le_refl _, rfl⟩, rfl, OwnB.nil _ _ _, Below.refl _ _, Nat.le_refl _⟩
  case round =>
    obtain ⟨m, l, HB, rfl, hown, hb, hB⟩ := hrel
    have hroom : l.length + 1 ≤ 140737488355328 := by have := HB.out.room; omega
    go_wp2_with (at_builtin; go_must (with_reducible refine lst (by with_unfolding_all rfl) (wp_appB1 T_u8 hown hb (by with_unfolding_all exact ⟨_, _, rfl, rfl, rfl⟩) hroom hB ?_ ?_); exact byte_of (by omega) (by omega); intro v' w1 c hc hown1 hb1 hB1))
    · have hu : IntKind.u64.wrap ((m : Int) / 128) = ((m / 128 : Nat) : Int) := by
        have := HB.out.1; have := HB.out.2.1
        rw [IntWalk.u64_in _ (by omega)]; omega
      go_roundw
      case rel => exact ⟨m / 128, _, box (HB.out.next (by omega) (by have := hc.out; omega)), by rw [hu], hown1, hb1, hB1⟩
      case measure => rw [hu]; simp [intOf]; omega
    · go_ret
      exact ⟨v', rfl, by rw [← HB.out.last (c := c) (by omega) (by have := hc.out; omega)]; exact hown1, hb1⟩
end Go.Proofs.Ytcnjnkkdidpjiaa

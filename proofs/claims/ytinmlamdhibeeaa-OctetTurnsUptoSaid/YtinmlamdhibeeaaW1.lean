/-
  Walks of the small functions of octet.
-/
import Derived.Test.YtinmlamdhibeeaaRows
import Derived.Test.YtinmlamdhibeeaaLib
import Derived.Test.YtinmlamdhibeeaaSpec
namespace Go.Proofs.Ytinmlamdhibeeaa
open Go.RowKit

theorem T_u8 : SlT Try.prog 26 5 1 1 (.int .u8 0) := ⟨Try.underlying26, by kernel_rfl, rfl, by decide⟩

theorem I_u8 : (Try.prog.info? 5).map (·.size) = some 1 := by kernel_rfl
/-- What a count's loop has done. -/
def CntAt (n m : Nat) (l : List UInt8) : Prop := n < 18446744073709551616 ∧ m ≤ n ∧ l ++ cnt m = cnt n
theorem CntAt.room {n m : Nat} {l : List UInt8} (h : CntAt n m l) : l.length + 1 ≤ 10 := by
  have h1 := cnt_len64 h.1
  rw [← h.2.2, List.length_append] at h1
  have := cnt_pos m
  omega
theorem CntAt.next {n m : Nat} {l : List UInt8} {c : UInt8} (h : CntAt n m l) (hm : 128 ≤ m) (hc : c.toNat = m % 128 + 128) : CntAt n (m / 128) (l ++ [c]) := by
  refine ⟨h.1, by have := h.2.1; omega, ?_⟩
  rw [← h.2.2, cnt_big hm, List.append_assoc]
  have : c = UInt8.ofNat (m % 128 + 128) := by rw [← hc]; simp
  rw [this]; rfl
theorem CntAt.last {n m : Nat} {l : List UInt8} {c : UInt8} (h : CntAt n m l) (hm : m < 128) (hc : c.toNat = m) : l ++ [c] = cnt n := by
  rw [← h.2.2, cnt_small hm]
  have : c = UInt8.ofNat m := by rw [← hc]; simp
  rw [this]

theorem or128 (m : Nat) : bits BinOp.or IntKind.u8 ((m : Int) % 256) 128 = ((m % 128 + 128 : Nat) : Int) := by
  have h1 : ((m : Int) % 256) = ((m % 256 : Nat) : Int) := by omega
  rw [h1, show (128 : Int) = ((128 : Nat) : Int) from rfl, u8_or_nat _ _ (by omega) (by omega)]
  congr 1
  have h2 : m % 256 = m / 128 % 2 * 128 + m % 128 := by omega
  rcases (show m / 128 % 2 = 0 ∨ m / 128 % 2 = 1 by omega) with h | h
  · have : m % 256 = m % 128 := by omega
    rw [this, Nat.or_comm, nat_join 7 128 (m % 128) (by decide) (by omega)]; omega
  · have : m % 256 = 128 ||| m % 128 := by rw [nat_join 7 128 (m % 128) (by decide) (by omega)]; omega
    rw [this, Nat.or_comm, ← Nat.or_assoc, Nat.or_self, nat_join 7 128 (m % 128) (by decide) (by omega)]; omega

set_option maxRecDepth 20000 in
set_option maxHeartbeats 400000 in
theorem count_any (n : Nat) (w : World) (Hn : Box (n < 18446744073709551616)) :
    Calls Try.prog 22 #[.int .u64 n] w fun e w' => ∃ v, e = .returned v ∧ OwnB w' w.heap.size 5 v (cnt n) ∧ Below w.heap.size w w' := by
  go_enter Try.func22, Try.ntmps22
  go_wp2
  go_loopw [0, 3] (fun x v wr => ∃ m : Nat, ∃ l : List UInt8, Box (CntAt n m l) ∧ x = .int .u64 m ∧ OwnB wr w.heap.size 5 v l ∧ Below w.heap.size w wr ∧ w.heap.size ≤ wr.heap.size) (fun x _ _ => (intOf x).toNat)
  case atStart => exact ⟨n, [], ⟨Hn.out, Nat.le_refl _, rfl⟩, rfl, OwnB.nil _ _ _, Below.refl _ _, Nat.le_refl _⟩
  case round =>
    obtain ⟨m, l, HB, rfl, hown, hb, hB⟩ := hrel
    have hroom : l.length + 1 ≤ 140737488355328 := by have := HB.out.room; omega
    have hor := or128 m
    go_wp2_with (at_builtin; go_must (with_reducible refine lst (by with_unfolding_all rfl) (wp_appB1 T_u8 hown hb (by with_unfolding_all exact ⟨_, _, rfl, rfl, rfl⟩) hroom hB ?_ ?_); exact byte_of (by omega) (by omega); intro v' w1 c hc hown1 hb1 hB1))
    · go_roundw
      case rel => exact ⟨m / 128, _, box (HB.out.next (by omega) (by have := hc.out; omega)), by go_num, hown1, hb1, hB1⟩
      case measure => simp [intOf]; omega
    · go_ret
      exact ⟨v', rfl, by rw [← HB.out.last (c := c) (by omega) (by have := hc.out; omega)]; exact hown1, hb1⟩

set_option maxRecDepth 20000 in
set_option maxHeartbeats 400000 in
theorem rcount_any (n : Nat) (w : World) (Hn : Box (n < 18446744073709551616)) :
    Calls Try.prog 23 #[.int .u64 n] w fun e w' => ∃ v, e = .returned v ∧ OwnB w' w.heap.size 5 v (cnt n) ∧ Below w.heap.size w w' := by
  go_enter Try.func23, Try.ntmps23
  go_wp2
  go_loopw [0, 3] (fun x v wr => ∃ m : Nat, ∃ l : List UInt8, Box (CntAt n m l) ∧ x = .int .u64 m ∧ OwnB wr w.heap.size 5 v l ∧ Below w.heap.size w wr ∧ w.heap.size ≤ wr.heap.size) (fun x _ _ => (intOf x).toNat)
  case atStart => exact ⟨n, [], ⟨Hn.out, Nat.le_refl _, rfl⟩, rfl, OwnB.nil _ _ _, Below.refl _ _, Nat.le_refl _⟩
  case round =>
    obtain ⟨m, l, HB, rfl, hown, hb, hB⟩ := hrel
    have hroom : l.length + 1 ≤ 140737488355328 := by have := HB.out.room; omega
    go_wp2_with (at_builtin; go_must (with_reducible refine lst (by with_unfolding_all rfl) (wp_appB1 T_u8 hown hb (by with_unfolding_all exact ⟨_, _, rfl, rfl, rfl⟩) hroom hB ?_ ?_); exact byte_of (by omega) (by omega); intro v' w1 c hc hown1 hb1 hB1))
    · have hu : IntKind.u64.wrap ((m : Int) / 128) = ((m / 128 : Nat) : Int) := by
        have := HB.out.1; have := HB.out.2.1
        rw [IntWalk.u64_in _ (by omega)]; omega
      go_roundw
      case rel => exact ⟨m / 128, _, box (HB.out.next (by omega) (by have := hc.out; omega)), by rw [hu], hown1, hb1, hB1⟩
      case measure => rw [hu]; simp [intOf]; omega
    · go_ret
      exact ⟨v', rfl, by rw [← HB.out.last (c := c) (by omega) (by have := hc.out; omega)]; exact hown1, hb1⟩
end Go.Proofs.Ytinmlamdhibeeaa

/-
  Counts, plainly.
-/
import Derived.Test.YtcnjnkkdidpjiaaLib
import Derived.Test.YtcnjnkkdidpjiaaSpec
namespace Go.Proofs.Ytcnjnkkdidpjiaa
open Go.RowKit

/-- What a count's loop has done. -/
def CntAt (n m : Nat) (l : List UInt8) : Prop := n < 18446744073709551616 ∧ m ≤ n ∧ l ++ cnt m = cnt n
theorem CntAt.room {n m : Nat} {l : List UInt8} (h : CntAt n m l) : l.length + 1 ≤ 10 := by
  have h1 := cnt_len64 h.1
  rw [← h.2.2, List.length_append] at h1
  have := cnt_pos m
  omega
theorem CntAt.next {n m : Nat} {l : List UInt8} {c : UInt8} (h : CntAt n m l) (hm : 128 ≤ m) (hc : c.toNat = m % 128 + 128) : CntAt n (m / 128) (l ++ [c]) := by
  refine ⟨h.1, by have := h.2.1; omega, ?_⟩
  rw [← h.2.2, cnt_big hm, List.append_assoc]
  have : c = UInt8.ofNat (m % 128 + 128) := by rw [← hc]; simp
  rw [this]; rfl
theorem CntAt.last {n m : Nat} {l : List UInt8} {c : UInt8} (h : CntAt n m l) (hm : m < 128) (hc : c.toNat = m) : l ++ [c] = cnt n := by
  rw [← h.2.2, cnt_small hm]
  have : c = UInt8.ofNat m := by rw [← hc]; simp
  rw [this]
theorem or128 (m : Nat) : bits BinOp.or IntKind.u8 ((m : Int) % 256) 128 = ((m % 128 + 128 : Nat) : Int) := by
  have h1 : ((m : Int) % 256) = ((m % 256 : Nat) : Int) := by omega
  rw [h1, show (128 : Int) = ((128 : Nat) : Int) from rfl, u8_or_nat _ _ (by omega) (by omega)]
  congr 1
  have h2 : m % 256 = m / 128 % 2 * 128 + m % 128 := by omega
  rcases (show m / 128 % 2 = 0 ∨ m / 128 % 2 = 1 by omega) with h | h
  · have : m % 256 = m % 128 := by omega
    rw [this, Nat.or_comm, nat_join 7 128 (m % 128) (by decide) (by omega)]; omega
  · have : m % 256 = 128 ||| m % 128 := by rw [nat_join 7 128 (m % 128) (by decide) (by omega)]; omega
    rw [this, Nat.or_comm, ← Nat.or_assoc, Nat.or_self, nat_join 7 128 (m % 128) (by decide) (by omega)]; omega
end Go.Proofs.Ytcnjnkkdidpjiaa

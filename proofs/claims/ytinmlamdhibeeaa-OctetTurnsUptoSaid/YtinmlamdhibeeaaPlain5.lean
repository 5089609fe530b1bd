/-
  Layer 1: the sum of bytes as the state behind the bits of one number; turned bits. No program is named here.
-/
import Derived.Test.YtinmlamdhibeeaaPlain4
namespace Go.Proofs.Ytinmlamdhibeeaa

def num : List UInt8 → Nat
  | [] => 0
  | b :: l => b.toNat + 256 * num l
theorem crcK_step : ∀ (k c : Nat), crcK (k + 1) c = crcK k (crc1 c)
  | 0, _ => rfl
  | k + 1, c => by
    show crc1 (crcK (k + 1) c) = crc1 (crcK k (crc1 c))
    rw [crcK_step k c]
theorem crcK_xor : ∀ (k a b : Nat), crcK k (a ^^^ b) = crcK k a ^^^ crcK k b
  | 0, _, _ => rfl
  | k + 1, a, b => by
    show crc1 (crcK k (a ^^^ b)) = crc1 (crcK k a) ^^^ crc1 (crcK k b)
    rw [crcK_xor k, crc1_xor]
theorem crc1_two (y : Nat) : crc1 (2 * y) = y := by
  unfold crc1
  rw [if_neg (by omega)]; omega
theorem bit_split (x : Nat) : x = (x % 2) ^^^ (2 * (x / 2)) := by
  have h1 : ((x % 2) ^^^ (2 * (x / 2))) % 2 = x % 2 := by
    rw [xor_mod2, Nat.mul_mod_right, Nat.xor_zero, Nat.mod_mod]
  have h2 : ((x % 2) ^^^ (2 * (x / 2))) / 2 = x / 2 := by
    rw [xor_div2, show x % 2 / 2 = 0 by omega, Nat.zero_xor]; omega
  omega
theorem run_word : ∀ (j c x : Nat), x < 2 ^ j → run j c x = crcK j (c ^^^ x)
  | 0, c, x, h => by
    have : x = 0 := by simpa using h
    subst this
    rw [run, crcK, Nat.xor_zero]
  | j + 1, c, x, h => by
    rw [run, run_word j _ _ (by rw [Nat.pow_succ] at h; omega), crcK_step]
    congr 1
    conv => rhs; rw [bit_split x, ← Nat.xor_assoc, crc1_xor, crc1_two]
theorem run_cut : ∀ (j c m : Nat), run j c (m % 2 ^ j) = run j c m
  | 0, _, _ => rfl
  | j + 1, c, m => by
    rw [run, run]
    have h1 : m % 2 ^ (j + 1) % 2 = m % 2 := by rw [Nat.pow_succ, Nat.mul_comm]; exact Nat.mod_mul_right_mod m 2 (2 ^ j)
    have h2 : m % 2 ^ (j + 1) / 2 = m / 2 % 2 ^ j := by rw [Nat.pow_succ, Nat.mul_comm, Nat.mod_mul_right_div_self]
    rw [h1, h2, run_cut j]
theorem run_add : ∀ (j k c m : Nat), run (j + k) c m = run k (run j c m) (m / 2 ^ j)
  | 0, k, c, m => by rw [Nat.zero_add, run, Nat.pow_zero, Nat.div_one]
  | j + 1, k, c, m => by
    rw [show j + 1 + k = (j + k) + 1 by omega, run, run, run_add j k, Nat.pow_succ, Nat.mul_comm, ← Nat.div_div_eq_div_mul]
theorem crcL_run : ∀ (l : List UInt8) (c : Nat), crcL c l = run (8 * l.length) c (num l)
  | [], _ => rfl
  | b :: l, c => by
    have hb := b.toNat_lt
    show crcL (crcK 8 (c ^^^ b.toNat)) l = _
    rw [crcL_run l, List.length_cons, show 8 * (l.length + 1) = 8 + 8 * l.length by omega, run_add, num]
    rw [show (b.toNat + 256 * num l) / 2 ^ 8 = num l by omega, ← run_cut 8, show (b.toNat + 256 * num l) % 2 ^ 8 = b.toNat by omega, run_word 8 _ _ (by omega)]
theorem run_zero : ∀ (k m : Nat), run k 0 (m * 2 ^ k) = 0
  | 0, _ => rfl
  | k + 1, m => by
    have h : m * 2 ^ (k + 1) = 2 * (m * 2 ^ k) := by rw [Nat.pow_succ]; rw [← Nat.mul_assoc, Nat.mul_comm]
    rw [h, run, Nat.mul_mod_right, Nat.mul_div_cancel_left _ (by omega), Nat.xor_self]
    exact run_zero k m
/-- Two messages whose bits differ by t within 32 in a row have two sums. -/
theorem crc_turns (l m : List UInt8) (c a t : Nat) (hl : l.length = m.length) (hx : num l ^^^ num m = t * 2 ^ a) (ht : t < 4294967296) (h0 : t ≠ 0) (ha : a + 32 ≤ 8 * l.length) : crcL c l ≠ crcL c m := by
  intro he
  have h1 : run (8 * l.length) (c ^^^ c) (num l ^^^ num m) = 0 := by
    rw [run_xor, ← crcL_run]
    rw [hl, ← crcL_run, he, Nat.xor_self]
  rw [Nat.xor_self, hx] at h1
  obtain ⟨r, hr⟩ : ∃ r, 8 * l.length = a + (32 + r) := ⟨8 * l.length - a - 32, by omega⟩
  rw [hr, run_add, run_zero, Nat.mul_div_cancel _ (Nat.two_pow_pos a), run_add, run_word 32 _ _ (by omega), Nat.zero_xor, show t / 2 ^ 32 = 0 by omega] at h1
  have hne : ∀ k, crcK k t ≠ 0 := by
    intro k
    induction k with
    | zero => exact h0
    | succ k ih => exact crc1_ne (crcK_lt ht k) ih
  exact run_ne r _ (crcK_lt ht 32) (hne 32) h1
end Go.Proofs.Ytinmlamdhibeeaa

/-
  Layer 1: one turned bit of bytes, as one turned bit of their number. No program is named here.
-/
import Derived.Test.YtinmlamdhibeeaaPlain5
namespace Go.Proofs.Ytinmlamdhibeeaa

theorem add_xor : ∀ (k x m : Nat), x < 2 ^ k → x + 2 ^ k * m = x ^^^ (2 ^ k * m)
  | 0, x, m, h => by
    have : x = 0 := by simpa using h
    subst this
    rw [Nat.zero_xor, Nat.zero_add]
  | k + 1, x, m, h => by
    have he : 2 ^ (k + 1) * m = 2 * (2 ^ k * m) := by rw [Nat.pow_succ, Nat.mul_comm (2 ^ k), Nat.mul_assoc]
    rw [he]
    have h1 : (x ^^^ 2 * (2 ^ k * m)) % 2 = x % 2 := by rw [xor_mod2, Nat.mul_mod_right, Nat.xor_zero]
    have h2 : (x ^^^ 2 * (2 ^ k * m)) / 2 = x / 2 + 2 ^ k * m := by
      rw [xor_div2, Nat.mul_div_cancel_left _ (by omega), ← add_xor k _ _ (by rw [Nat.pow_succ] at h; omega)]
    omega
theorem byte_turn (b r : Nat) (hb : b < 256) (hr : r < 8) : b ^^^ 2 ^ r < 256 := by
  have h : (2 : Nat) ^ r < 2 ^ 8 := Nat.pow_lt_pow_right (by omega) hr
  exact xor_lt (k := 8) hb h
theorem num_set : ∀ (l : List UInt8) (j r : Nat) (b d : UInt8), l[j]? = some b → r < 8 → d.toNat = b.toNat ^^^ 2 ^ r → num (l.set j d) = num l ^^^ 2 ^ (8 * j + r)
  | [], j, r, b, d, h, _, _ => by simp at h
  | c :: l, 0, r, b, d, h, hr, hd => by
    simp only [List.getElem?_cons_zero, Option.some.injEq] at h
    subst h
    have hc := c.toNat_lt
    have hlt := byte_turn c.toNat r hc hr
    rw [List.set_cons_zero, num, num, hd, Nat.mul_zero, Nat.zero_add]
    rw [show (256 : Nat) = 2 ^ 8 from rfl] at *
    rw [add_xor 8 _ _ hlt, add_xor 8 _ _ hc, Nat.xor_assoc, Nat.xor_assoc, Nat.xor_comm (2 ^ r)]
  | c :: l, j + 1, r, b, d, h, hr, hd => by
    rw [List.getElem?_cons_succ] at h
    have hc := c.toNat_lt
    rw [List.set_cons_succ, num, num, num_set l j r b d h hr hd]
    have h1 : 256 * (num l ^^^ 2 ^ (8 * j + r)) = (256 * num l) ^^^ 2 ^ (8 * (j + 1) + r) := by
      have := Nat.shiftLeft_xor_distrib (a := num l) (b := 2 ^ (8 * j + r)) (i := 8)
      rw [Nat.shiftLeft_eq, Nat.shiftLeft_eq, Nat.shiftLeft_eq, ← Nat.pow_add] at this
      rw [Nat.mul_comm, show (256 : Nat) = 2 ^ 8 from rfl, this, Nat.mul_comm (num l), show 8 * j + r + 8 = 8 * (j + 1) + r by omega]
    rw [show (256 : Nat) = 2 ^ 8 from rfl] at *
    rw [add_xor 8 _ _ hc, h1, add_xor 8 _ _ hc, Nat.xor_assoc]
theorem turn_bit (t i a : Nat) (h : t / 2 ^ i % 2 = 1) : (t % 2 ^ i * 2 ^ a) ^^^ 2 ^ (a + i) = t % 2 ^ (i + 1) * 2 ^ a := by
  have h1 : t % 2 ^ (i + 1) = t % 2 ^ i + 2 ^ i * (t / 2 ^ i % 2) := by rw [Nat.pow_succ, Nat.mod_mul]
  rw [h1, h, Nat.mul_one]
  have h2 := add_xor i (t % 2 ^ i) 1 (Nat.mod_lt _ (Nat.two_pow_pos i))
  rw [Nat.mul_one] at h2
  rw [h2]
  have := Nat.shiftLeft_xor_distrib (a := t % 2 ^ i) (b := 2 ^ i) (i := a)
  rw [Nat.shiftLeft_eq, Nat.shiftLeft_eq, Nat.shiftLeft_eq, ← Nat.pow_add] at this
  rw [this, Nat.add_comm a]
theorem turn_no (t i : Nat) (h : t / 2 ^ i % 2 = 0) : t % 2 ^ (i + 1) = t % 2 ^ i := by rw [Nat.pow_succ, Nat.mod_mul, h, Nat.mul_zero, Nat.add_zero]
end Go.Proofs.Ytinmlamdhibeeaa

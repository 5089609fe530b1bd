/-
  Layer 1: the sum tells turned bits: bits within 32 in a row that are turned turn the sum. No program is named here.
-/
import Derived.Test.YtinmlamdhibeeaaSpec
namespace Go.Proofs.Ytinmlamdhibeeaa

theorem xor_mod2 (a b : Nat) : (a ^^^ b) % 2 = (a % 2) ^^^ (b % 2) := by
  have := Nat.xor_mod_two_pow (a := a) (b := b) (n := 1)
  simpa using this
theorem xor_div2 (a b : Nat) : (a ^^^ b) / 2 = (a / 2) ^^^ (b / 2) := by
  have := Nat.shiftRight_xor_distrib (a := a) (b := b) (i := 1)
  simpa [Nat.shiftRight_succ] using this
theorem xor_mul2 (a b : Nat) : 2 * (a ^^^ b) = (2 * a) ^^^ (2 * b) := by
  have := Nat.shiftLeft_xor_distrib (a := a) (b := b) (i := 1)
  simpa [Nat.shiftLeft_succ] using this
theorem xor_lc (a b c : Nat) : a ^^^ (b ^^^ c) = b ^^^ (a ^^^ c) := by rw [← Nat.xor_assoc, ← Nat.xor_assoc, Nat.xor_comm a b]
theorem crc1_xor (a b : Nat) : crc1 (a ^^^ b) = crc1 a ^^^ crc1 b := by
  unfold crc1
  rw [xor_mod2, xor_div2]
  rcases Nat.mod_two_eq_zero_or_one a with ha | ha <;> rcases Nat.mod_two_eq_zero_or_one b with hb | hb <;> simp [ha, hb]
  · rw [Nat.xor_assoc]
  · rw [Nat.xor_assoc, Nat.xor_assoc, Nat.xor_comm (b / 2)]
  · rw [Nat.xor_assoc, xor_lc 3988292384, Nat.xor_self]; simp
theorem crc1_ne {c : Nat} (h : c < 4294967296) (h0 : c ≠ 0) : crc1 c ≠ 0 := by
  unfold crc1
  split
  · intro he
    have : c / 2 = 3988292384 := by
      have h2 : (c / 2 ^^^ 3988292384) ^^^ 3988292384 = 0 ^^^ 3988292384 := by rw [he]
      rw [Nat.xor_assoc, Nat.xor_self] at h2
      simpa using h2
    omega
  · omega

/-- The state behind k bits of a message that is one number, the lowest bit first. -/
def run : Nat → Nat → Nat → Nat
  | 0, c, _ => c
  | k + 1, c, m => run k (crc1 (c ^^^ (m % 2))) (m / 2)
theorem run_xor : ∀ (k c d m n : Nat), run k (c ^^^ d) (m ^^^ n) = run k c m ^^^ run k d n
  | 0, _, _, _, _ => rfl
  | k + 1, c, d, m, n => by
    rw [run, run, run, xor_mod2, xor_div2, ← run_xor k, ← crc1_xor]
    congr 2
    rw [Nat.xor_assoc, Nat.xor_assoc, xor_lc d]
theorem run_ne : ∀ (k c : Nat), c < 4294967296 → c ≠ 0 → run k c 0 ≠ 0
  | 0, c, _, h => h
  | k + 1, c, hc, h => by
    rw [run]
    simp only [Nat.zero_mod, Nat.xor_zero, Nat.zero_div]
    exact run_ne k _ (crc1_lt hc) (crc1_ne hc h)
end Go.Proofs.Ytinmlamdhibeeaa

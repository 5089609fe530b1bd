/-
  Layer 1: plain laws on turned words. No program is named here.
-/
import Derived.Test.YtinmlamdhibeeaaSpec
namespace Go.Proofs.Ytinmlamdhibeeaa

def rrot (X k : Nat) : Nat → Nat
  | 0 => 0
  | i + 1 => if X / 2 ^ i % 2 = 1 then rrot X k i ||| 2 ^ ((i + 32 - k) % 32) else rrot X k i

theorem rrot_test (X k : Nat) (hk : k < 32) : ∀ (i j : Nat), i ≤ 32 → (rrot X k i).testBit j = (decide (j < 32 ∧ (j + k) % 32 < i) && X.testBit ((j + k) % 32))
  | 0, j, _ => by simp [rrot]
  | i + 1, j, hi => by
    have ih := rrot_test X k hk i j (by omega)
    have hb : X.testBit i = decide (X / 2 ^ i % 2 = 1) := Nat.testBit_eq_decide_div_mod_eq
    rw [rrot]
    by_cases h1 : X / 2 ^ i % 2 = 1
    · rw [if_pos h1, Nat.testBit_or, ih, Nat.testBit_two_pow]
      by_cases h2 : (i + 32 - k) % 32 = j
      · have h3 : (j + k) % 32 = i := by omega
        have h4 : j < 32 := by omega
        simp [h2, h3, h4, hb, h1]
      · have h3 : ¬ (j < 32 ∧ (j + k) % 32 = i) := by omega
        have h5 : (j < 32 ∧ (j + k) % 32 < i + 1) ↔ (j < 32 ∧ (j + k) % 32 < i) := by omega
        simp [h2, h5]
    · rw [if_neg h1, ih]
      by_cases h3 : j < 32 ∧ (j + k) % 32 = i
      · have h4 : X.testBit ((j + k) % 32) = false := by rw [h3.2, hb]; simp [h1]
        simp [h4]
      · have h5 : (j < 32 ∧ (j + k) % 32 < i + 1) ↔ (j < 32 ∧ (j + k) % 32 < i) := by omega
        simp [h5]

theorem rotN_test (X k : Nat) (hX : X < 4294967296) (hk : k < 32) (j : Nat) : (rotN X k).testBit j = (decide (j < 32) && X.testBit ((j + k) % 32)) := by
  unfold rotN
  obtain ⟨s, hs⟩ : ∃ s, s = (32 - k) % 32 := ⟨_, rfl⟩
  have hs32 : s < 32 := by omega
  rw [← hs, Nat.testBit_or, Nat.testBit_mod_two_pow, ← Nat.shiftLeft_eq, ← Nat.shiftRight_eq_div_pow, Nat.testBit_shiftLeft, Nat.testBit_shiftRight]
  have hbig : ∀ m, 32 ≤ m → X.testBit m = false := fun m hm => Nat.testBit_lt_two_pow (Nat.lt_of_lt_of_le hX (Nat.pow_le_pow_right (n := 2) (by decide) hm))
  by_cases hj : j < 32
  · by_cases hsj : s ≤ j
    · have h1 : (j + k) % 32 = j - s := by omega
      rw [h1, hbig (32 - s + j) (by omega)]
      simp [hj, hsj]
    · have h1 : (j + k) % 32 = 32 - s + j := by omega
      rw [h1]
      simp [hj, hsj]
  · rw [hbig (32 - s + j) (by omega)]
    simp [hj]

theorem rotN_lt (X k : Nat) (hX : X < 4294967296) : rotN X k < 4294967296 := by
  unfold rotN
  exact Nat.or_lt_two_pow (n := 32) (Nat.mod_lt _ (by decide)) (Nat.lt_of_le_of_lt (Nat.div_le_self _ _) hX)

theorem rot_eq (X k : Nat) (hX : X < 4294967296) (hk : k < 32) : rotN X k = rrot X k 32 := by
  refine Nat.eq_of_testBit_eq fun j => ?_
  rw [rotN_test X k hX hk, rrot_test X k hk 32 j (by omega)]
  have : (j < 32 ∧ (j + k) % 32 < 32) ↔ j < 32 := by omega
  simp [this]

theorem rot_back (X k : Nat) (hX : X < 4294967296) (hk : k < 32) : rotN (rotN X k) ((32 - k) % 32) = X := by
  refine Nat.eq_of_testBit_eq fun j => ?_
  rw [rotN_test _ _ (rotN_lt X k hX) (by omega), rotN_test X k hX hk]
  by_cases hj : j < 32
  · have h1 : (j + (32 - k) % 32) % 32 < 32 := by omega
    have h2 : ((j + (32 - k) % 32) % 32 + k) % 32 = j := by omega
    rw [h2]
    rw [decide_eq_true hj, decide_eq_true h1, Bool.true_and, Bool.true_and]
  · have : X.testBit j = false := Nat.testBit_lt_two_pow (Nat.lt_of_lt_of_le (m := 2 ^ 32) hX (Nat.pow_le_pow_right (n := 2) (by decide) (by omega)))
    simp [hj, this]
end Go.Proofs.Ytinmlamdhibeeaa

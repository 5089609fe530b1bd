/-
  Layer 1: plain laws on counts. No program is named here.
-/
import Derived.Test.YtgcoebndhnijgaaDoorSpec
namespace Go.Proofs.YtgcoebndhnijgaaDoor

theorem u8_big (c : UInt8) (h : 128 ≤ c.toNat) : UInt8.ofNat (c.toNat % 128 + 128) = c := by
  have := c.toNat_lt
  rw [show c.toNat % 128 + 128 = c.toNat by omega]; simp

/-- What is read is the shortest form. -/
theorem rdc_cnt_from : ∀ (l : List UInt8) (i a : Nat), (rdc i a l).2.2 = 0 →
    ∃ y, (rdc i a l).1 = a + y * 2 ^ (7 * i) ∧ (rdc i a l).2.1 = i + (cnt y).length ∧ l.take (cnt y).length = cnt y ∧ (0 < i → y ≠ 0)
  | [], i, a, h => by simp [rdc] at h
  | c :: l, i, a, h => by
    rw [rdc] at h ⊢
    by_cases h1 : (i = 9 ∧ 1 < c.toNat) ∨ (0 < i ∧ c.toNat = 0)
    · rw [if_pos h1] at h; simp at h
    · rw [if_neg h1] at h ⊢
      by_cases h2 : c.toNat < 128
      · rw [if_pos h2]
        have hc : cnt c.toNat = [c] := by rw [cnt_small h2]; simp
        refine ⟨c.toNat, by simp only []; rw [Nat.mod_eq_of_lt h2], by rw [hc]; rfl, by rw [hc]; rfl, fun hi h0 => h1 (.inr ⟨hi, h0⟩)⟩
      · rw [if_neg h2] at h ⊢
        obtain ⟨y, e1, e2, e3, e4⟩ := rdc_cnt_from l (i + 1) _ h
        have hy := e4 (by omega)
        have hlt := c.toNat_lt
        have hm : (c.toNat % 128 + 128 * y) % 128 = c.toNat % 128 := by omega
        have hd : (c.toNat % 128 + 128 * y) / 128 = y := by omega
        have hc : cnt (c.toNat % 128 + 128 * y) = c :: cnt y := by
          rw [cnt_big (by omega), hm, hd, u8_big c (by omega)]
        refine ⟨c.toNat % 128 + 128 * y, ?_, ?_, ?_, fun _ => by omega⟩
        · rw [e1, show 7 * (i + 1) = 7 * i + 7 by omega, Nat.pow_add, Nat.add_mul]
          have : y * (2 ^ (7 * i) * 2 ^ 7) = 128 * y * 2 ^ (7 * i) := by
            rw [Nat.mul_comm (2 ^ (7 * i)), ← Nat.mul_assoc, Nat.mul_comm y]
          rw [this]; omega
        · rw [e2, hc, List.length_cons]; omega
        · rw [hc, List.length_cons, List.take_succ_cons, e3]
theorem rdc_cnt {l : List UInt8} (h : (rdc 0 0 l).2.2 = 0) : cnt (rdc 0 0 l).1 = l.take (rdc 0 0 l).2.1 ∧ (rdc 0 0 l).2.1 ≤ l.length := by
  obtain ⟨y, e1, e2, e3, _⟩ := rdc_cnt_from l 0 0 h
  have hx : (rdc 0 0 l).1 = y := by rw [e1]; simp
  have hu : (rdc 0 0 l).2.1 = (cnt y).length := by rw [e2]; simp
  rw [hx, hu, e3]
  refine ⟨rfl, ?_⟩
  have := congrArg List.length e3
  rw [List.length_take] at this
  omega

/-- A count is read back, whatever stands behind it. -/
theorem rdc_back_from : ∀ (k y i a : Nat) (m : List UInt8), y < 2 ^ (7 * (k + 1)) → (i + k = 9 → y < 2 ^ (64 - 7 * i)) → i + k ≤ 9 → (0 < i → y ≠ 0) →
    rdc i a (cnt y ++ m) = (a + y * 2 ^ (7 * i), i + (cnt y).length, 0)
  | 0, y, i, a, m, h, h9, hik, h0 => by
    have hy : y < 128 := by simpa using h
    rw [cnt_small hy, List.singleton_append, rdc]
    have hc : (UInt8.ofNat y).toNat = y := by simp; omega
    rw [hc, if_neg ?_, if_pos hy, Nat.mod_eq_of_lt hy]
    · rfl
    · rintro (⟨rfl, h1⟩ | ⟨hi, h1⟩)
      · have := h9 rfl; simp at this; omega
      · exact h0 hi h1
  | k + 1, y, i, a, m, h, h9, hik, h0 => by
    by_cases hy : y < 128
    · rw [cnt_small hy, List.singleton_append, rdc]
      have hc : (UInt8.ofNat y).toNat = y := by simp; omega
      rw [hc, if_neg ?_, if_pos hy, Nat.mod_eq_of_lt hy]
      · rfl
      · rintro (⟨rfl, h1⟩ | ⟨hi, h1⟩)
        · omega
        · exact h0 hi h1
    · rw [cnt_big (by omega), List.cons_append, rdc]
      have hc : (UInt8.ofNat (y % 128 + 128)).toNat = y % 128 + 128 := by simp; omega
      rw [hc, if_neg (by omega), if_neg (by omega)]
      have hp : 7 * (k + 1 + 1) = 7 * (k + 1) + 7 := by omega
      rw [rdc_back_from k (y / 128) (i + 1) _ m (by rw [hp, Nat.pow_add] at h; omega) (fun he => ?_) (by omega) (fun _ => by omega)]
      · simp only [List.length_cons, Prod.mk.injEq, and_true]
        refine ⟨?_, by omega⟩
        rw [show 7 * (i + 1) = 7 * i + 7 by omega, Nat.pow_add, show (y % 128 + 128) % 128 = y % 128 by omega]
        have h1 : y = y % 128 + 128 * (y / 128) := by omega
        have h2 : y / 128 * (2 ^ (7 * i) * 2 ^ 7) = 128 * (y / 128) * 2 ^ (7 * i) := by
          rw [Nat.mul_comm (2 ^ (7 * i)), ← Nat.mul_assoc, Nat.mul_comm (y / 128)]
        have h3 : y * 2 ^ (7 * i) = y % 128 * 2 ^ (7 * i) + 128 * (y / 128) * 2 ^ (7 * i) := by rw [← Nat.add_mul, ← h1]
        rw [h2, h3]; omega
      · have h10 := h9 (by omega)
        have hq : 64 - 7 * i = (64 - 7 * (i + 1)) + 7 := by omega
        rw [hq, Nat.pow_add] at h10
        omega
theorem rdc_back (n : Nat) (m : List UInt8) (h : n < 18446744073709551616) : rdc 0 0 (cnt n ++ m) = (n, (cnt n).length, 0) := by
  rw [rdc_back_from 9 n 0 0 m (Nat.lt_of_lt_of_le h (by decide)) (fun _ => Nat.lt_of_lt_of_le h (by decide)) (by omega) (fun h => absurd h (by omega))]
  simp

/-- A byte short it ends too early. -/
theorem rdc_cut_from : ∀ (k y i a : Nat), y < 2 ^ (7 * (k + 1)) → i + k ≤ 9 → (rdc i a ((cnt y).take ((cnt y).length - 1))).2.2 = 9
  | 0, y, i, a, h, _ => by
    have hy : y < 128 := by simpa using h
    rw [cnt_small hy]; rfl
  | k + 1, y, i, a, h, hik => by
    by_cases hy : y < 128
    · rw [cnt_small hy]; rfl
    · rw [cnt_big (by omega), List.length_cons, Nat.add_sub_cancel]
      have hpos := cnt_pos (y / 128)
      obtain ⟨q, hq⟩ : ∃ q, (cnt (y / 128)).length = q + 1 := ⟨(cnt (y / 128)).length - 1, by omega⟩
      have hc : (UInt8.ofNat (y % 128 + 128)).toNat = y % 128 + 128 := by simp; omega
      rw [hq, List.take_succ_cons, rdc, hc, if_neg (by omega), if_neg (by omega)]
      have hp : 7 * (k + 1 + 1) = 7 * (k + 1) + 7 := by omega
      have := rdc_cut_from k (y / 128) (i + 1) (a + (y % 128 + 128) % 128 * 2 ^ (7 * i)) (by rw [hp, Nat.pow_add] at h; omega) (by omega)
      rw [hq, Nat.add_sub_cancel] at this
      exact this
theorem rdc_cut (n : Nat) (h : n < 18446744073709551616) : (rdc 0 0 ((cnt n).take ((cnt n).length - 1))).2.2 = 9 :=
  rdc_cut_from 9 n 0 0 (Nat.lt_of_lt_of_le h (by decide)) (by omega)
end Go.Proofs.YtgcoebndhnijgaaDoor

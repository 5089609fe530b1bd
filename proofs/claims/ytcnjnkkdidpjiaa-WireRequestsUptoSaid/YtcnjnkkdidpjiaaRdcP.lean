/-
  Counts and texts that are read, plainly.
-/
import Derived.Test.YtcnjnkkdidpjiaaLib
import Derived.Test.YtcnjnkkdidpjiaaSpec
namespace Go.Proofs.Ytcnjnkkdidpjiaa
open Go.RowKit

theorem and127 (d : UInt8) : bits BinOp.and IntKind.u8 (d.toNat : Int) 127 = ((d.toNat % 128 : Nat) : Int) := by
  have := d.toNat_lt
  rw [show (127 : Int) = ((127 : Nat) : Int) from rfl, u8_and_nat _ _ (by omega) (by decide), nat_mask7]
/-- What a reading loop has come to: the whole reading is the reading from here on. -/
def RdcAt (l : List UInt8) (k : Nat) (C : Nat) : Prop := k ≤ 9 ∧ C < 2 ^ (7 * k) ∧ rdc 0 0 l = rdc k C (l.drop k)
theorem pow7 (k : Nat) : (2 : Nat) ^ (7 * (k + 1)) = 2 ^ (7 * k) * 128 := by rw [Nat.mul_add, Nat.pow_add]
theorem rdc_shift (d : UInt8) (k T : Nat) (hk : k ≤ 9) (h9 : k = 9 → d.toNat ≤ 1) (hT : T = d.toNat % 128 * 2 ^ (7 * k)) :
    IntKind.u64.wrap ((d.toNat : Int) % 128 * 2 ^ (7 * k)) = (T : Int) ∧ T < 18446744073709551616 := by
  have hd := d.toNat_lt
  have hlt : T < 18446744073709551616 := by
    rcases Nat.lt_or_ge k 9 with h | h
    · have h1 : 2 ^ (7 * k) ≤ 2 ^ 56 := Nat.pow_le_pow_right (by decide) (by omega)
      have h2 : T ≤ 127 * 2 ^ 56 := by rw [hT]; exact Nat.mul_le_mul (by omega) h1
      exact Nat.lt_of_le_of_lt h2 (by decide)
    · obtain rfl : k = 9 := by omega
      have h2 : T ≤ 1 * 2 ^ (7 * 9) := by rw [hT]; exact Nat.mul_le_mul (by have := h9 rfl; omega) (Nat.le_refl _)
      exact Nat.lt_of_le_of_lt h2 (by decide)
  have he : ((d.toNat : Int) % 128 * 2 ^ (7 * k)) = (T : Int) := by rw [hT]; simp
  refine ⟨?_, hlt⟩
  rw [he, IntWalk.u64_in _ (by omega)]
theorem rdc_or (C T k : Nat) (d : UInt8) (hC : C < 2 ^ (7 * k)) (hT : T < 18446744073709551616) (he : T = d.toNat % 128 * 2 ^ (7 * k)) (hk : k ≤ 9) :
    bits BinOp.or IntKind.u64 (C : Int) (T : Int) = ((C + T : Nat) : Int) := by
  have hC2 : C < 18446744073709551616 := Nat.lt_of_lt_of_le hC (Nat.le_trans (Nat.pow_le_pow_right (by decide) (show 7 * k ≤ 63 by omega)) (by decide))
  rw [u64_or_nat _ _ hC2 hT]
  congr 1
  rw [Nat.or_comm, nat_join (7 * k) T C (by rw [he]; exact Nat.mul_mod_left _ _) hC, Nat.add_comm]
theorem rdc_next {C T k : Nat} {d : UInt8} (hC : C < 2 ^ (7 * k)) (hT : T = d.toNat % 128 * 2 ^ (7 * k)) : C + T < 2 ^ (7 * (k + 1)) := by
  rw [pow7, hT]
  have h1 : d.toNat % 128 ≤ 127 := by omega
  have h2 := Nat.mul_le_mul_right (2 ^ (7 * k)) h1
  omega
theorem rdc_step {l : List UInt8} {k C : Nat} {d : UInt8} (h : RdcAt l k C) (hd : l[k]? = some d) :
    rdc 0 0 l = if (k = 9 ∧ 1 < d.toNat) ∨ (0 < k ∧ d.toNat = 0) then (0, 0, 10)
      else if d.toNat < 128 then (C + d.toNat % 128 * 2 ^ (7 * k), k + 1, 0) else rdc (k + 1) (C + d.toNat % 128 * 2 ^ (7 * k)) (l.drop (k + 1)) := by
  have hlt : k < l.length := (List.getElem?_eq_some_iff.1 hd).1
  have he : l[k] = d := (List.getElem?_eq_some_iff.1 hd).2
  rw [h.2.2, List.drop_eq_getElem_cons hlt, he, rdc]
theorem rdc_add (C T : Nat) (hT : C + T < 18446744073709551616) :
    IntKind.u64.wrap ((C : Int) + (T : Int)) = ((C + T : Nat) : Int) := by
  rw [IntWalk.u64_in _ (by omega)]; omega
theorem rdc_sum {C T k : Nat} {d : UInt8} (hC : C < 2 ^ (7 * k)) (hk : k ≤ 9) (h9 : k = 9 → d.toNat ≤ 1) (hT : T = d.toNat % 128 * 2 ^ (7 * k)) : C + T < 18446744073709551616 := by
  have h7 : T + 2 ^ (7 * k) ≤ 18446744073709551616 := by
    have he : T + 2 ^ (7 * k) = (d.toNat % 128 + 1) * 2 ^ (7 * k) := by rw [hT, Nat.add_mul, Nat.one_mul]
    rw [he]
    rcases Nat.lt_or_ge k 9 with h | h
    · have h1 : 2 ^ (7 * k) ≤ 2 ^ 56 := Nat.pow_le_pow_right (by decide) (by omega)
      exact Nat.le_trans (Nat.mul_le_mul (show d.toNat % 128 + 1 ≤ 128 by omega) h1) (by decide)
    · obtain rfl : k = 9 := by omega
      exact Nat.le_trans (Nat.mul_le_mul (show d.toNat % 128 + 1 ≤ 2 by have := h9 rfl; omega) (Nat.le_refl _)) (by decide)
  omega
/-- What a reading of a count tells of the bytes. -/
theorem rdc_used : ∀ (l : List UInt8) (i a : Nat), (rdc i a l).2.2 = 0 → i < (rdc i a l).2.1 ∧ (rdc i a l).2.1 ≤ i + l.length
  | [], i, a, h => by simp [rdc] at h
  | c :: l, i, a, h => by
    rw [rdc] at h ⊢
    split
    · rename_i h1; rw [if_pos h1] at h; simp at h
    · rename_i h1
      rw [if_neg h1] at h
      split
      · simp
      · rename_i h2
        rw [if_neg h2] at h
        have := rdc_used l (i + 1) _ h
        simp only [List.length_cons]; omega
theorem rdc_err : ∀ (l : List UInt8) (i a : Nat), (rdc i a l).2.2 = 0 ∨ (rdc i a l).2.2 = 9 ∨ (rdc i a l).2.2 = 10
  | [], i, a => by simp [rdc]
  | c :: l, i, a => by
    rw [rdc]
    split
    · simp
    · split
      · simp
      · exact rdc_err l _ _
theorem rdc_lt64 (l : List UInt8) : ∀ (m k C : Nat), m = l.length - k → RdcAt l k C → (rdc 0 0 l).1 < 18446744073709551616
  | m, k, C, hm, h => by
    rcases Nat.lt_or_ge k l.length with hk | hk
    · have hd : l[k]? = some l[k] := by simp
      have hs := rdc_step h hd
      by_cases hA : (k = 9 ∧ 1 < l[k].toNat) ∨ (0 < k ∧ l[k].toNat = 0)
      · rw [if_pos hA] at hs; rw [hs]; decide
      · rw [if_neg hA] at hs
        by_cases h8 : l[k].toNat < 128
        · rw [if_pos h8] at hs
          rw [hs]
          exact rdc_sum h.2.1 h.1 (fun h => by omega) rfl
        · rw [if_neg h8] at hs
          have hkn : k + 1 ≤ 9 := by have := h.1; omega
          match m, hm with
          | 0, hm => omega
          | m + 1, hm => exact rdc_lt64 l m (k + 1) _ (by omega) ⟨hkn, rdc_next h.2.1 rfl, hs⟩
    · have hs := h.2.2
      rw [List.drop_of_length_le hk, rdc] at hs
      rw [hs]; decide
theorem rdc_lt (l : List UInt8) : (rdc 0 0 l).1 < 18446744073709551616 := rdc_lt64 l _ 0 0 rfl ⟨by omega, by simp, by simp⟩
theorem rdt_bad {l : List UInt8} {most : Int} (h : (rdc 0 0 l).2.2 ≠ 0) : rdt l most = ([], 0, (rdc 0 0 l).2.2) := by unfold rdt; simp [h]
theorem rdt_limit {l : List UInt8} {most : Int} (h : (rdc 0 0 l).2.2 = 0) (h1 : most < ((rdc 0 0 l).1 : Int)) : rdt l most = ([], 0, 8) := by unfold rdt; simp [h, h1]
theorem rdt_short {l : List UInt8} {most : Int} (h : (rdc 0 0 l).2.2 = 0) (h1 : ¬ most < ((rdc 0 0 l).1 : Int)) (h2 : l.length - (rdc 0 0 l).2.1 < (rdc 0 0 l).1) : rdt l most = ([], 0, 9) := by unfold rdt; simp only; rw [if_neg (by simp [h]), if_neg h1, if_pos h2]
theorem rdt_ok {l : List UInt8} {most : Int} (h : (rdc 0 0 l).2.2 = 0) (h1 : ¬ most < ((rdc 0 0 l).1 : Int)) (h2 : ¬ l.length - (rdc 0 0 l).2.1 < (rdc 0 0 l).1) :
    rdt l most = ((l.drop (rdc 0 0 l).2.1).take (rdc 0 0 l).1, (rdc 0 0 l).2.1 + (rdc 0 0 l).1, 0) := by unfold rdt; simp only; rw [if_neg (by simp [h]), if_neg h1, if_neg h2]
/-- The ways of a text's reading: x the count, u its bytes, er the error. -/
structure RdtWay (l : List UInt8) (n : Nat) (most : Int) (x u er : Nat) (r : List UInt8 × Nat × Nat) : Prop where
  way : er ≠ 0 ∧ r = ([], 0, er) ∨ er = 0 ∧ u ≤ n ∧ (most < (x : Int) ∧ r = ([], 0, 8) ∨ ¬ most < (x : Int) ∧ (n - u < x ∧ r = ([], 0, 9) ∨ ¬ n - u < x ∧ r = ((l.drop u).take x, u + x, 0)))
theorem rdt_way {l : List UInt8} {n : Nat} (hl : l.length = n) (most : Int) : RdtWay l n most (rdc 0 0 l).1 (rdc 0 0 l).2.1 (rdc 0 0 l).2.2 (rdt l most) := by
  refine ⟨?_⟩
  by_cases h : (rdc 0 0 l).2.2 = 0
  · refine .inr ⟨h, by have := rdc_used l 0 0 h; omega, ?_⟩
    by_cases h1 : most < ((rdc 0 0 l).1 : Int)
    · exact .inl ⟨h1, rdt_limit h h1⟩
    · refine .inr ⟨h1, ?_⟩
      rw [← hl]
      by_cases h2 : l.length - (rdc 0 0 l).2.1 < (rdc 0 0 l).1
      · exact .inl ⟨h2, rdt_short h h1 h2⟩
      · exact .inr ⟨h2, rdt_ok h h1 h2⟩
  · exact .inl ⟨h, rdt_bad h⟩
end Go.Proofs.Ytcnjnkkdidpjiaa

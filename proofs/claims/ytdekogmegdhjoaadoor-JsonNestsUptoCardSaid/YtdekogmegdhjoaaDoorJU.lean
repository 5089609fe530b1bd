/-
  Layer 6 in plain words: the library's decoder of UTF-8, and how many bytes a sign has. No program is named here.
-/
import Derived.Test.YtdekogmegdhjoaaDoorJSpec
import Derived.Lib.DecodeN
import Derived.Lib.RuneBytes
namespace Go.Proofs.YtdekogmegdhjoaaDoor
open Go.Lib

theorem u8r (c : UInt8) : c.toNat < 256 := c.toNat_lt
theorem decodeN_size (c : UInt8) (l : List UInt8) (b1 b2 b3 : Nat) (h1 : ∀ x, l[0]? = some x → b1 = x.toNat) (h2 : ∀ x, l[1]? = some x → b2 = x.toNat) (h3 : ∀ x, l[2]? = some x → b3 = x.toNat) :
    ((decodeN (l.length + 1) c.toNat b1 b2 b3).1 = 65533 ∧ (decodeN (l.length + 1) c.toNat b1 b2 b3).2 < 2 ↔ jSize (c :: l) = 0) ∧ (jSize (c :: l) ≠ 0 → (decodeN (l.length + 1) c.toNat b1 b2 b3).2 = jSize (c :: l)) := by
  have hc := u8r c
  simp only [jSize]
  generalize c.toNat = C at *
  by_cases a1 : C < 128
  · rw [if_pos a1]
    unfold decodeN
    rw [if_pos a1]
    simp; omega
  rw [if_neg a1]
  by_cases a2 : C < 194
  · rw [if_pos a2]
    unfold decodeN
    rw [if_neg a1]
    repeat' split
    all_goals simp
    all_goals omega
  rw [if_neg a2]
  by_cases a3 : C < 224
  · rw [if_pos a3]
    match l, h1 with
    | [], _ =>
      unfold decodeN
      rw [if_neg a1]
      repeat' split
      all_goals simp
      all_goals simp_all
      all_goals omega
    | x :: l, h1 =>
      have e1 := h1 x rfl
      have hx := u8r x
      subst e1
      simp only [jCont, Bool.and_eq_true, decide_eq_true_eq]
      unfold decodeN
      rw [if_neg a1]
      simp only [List.length_cons]
      by_cases y1 : 128 ≤ x.toNat ∧ x.toNat ≤ 191
      · rw [if_pos y1, if_pos (by omega), if_pos (by omega)]
        simp
      · rw [if_neg y1, if_neg (by omega), if_neg (by omega), if_neg (by omega)]
        simp
  rw [if_neg a3]
  by_cases a4 : C < 240
  · rw [if_pos a4]
    match l, h1, h2 with
    | [], _, _ =>
      unfold decodeN
      rw [if_neg a1]
      repeat' split
      all_goals simp
      all_goals simp_all
      all_goals omega
    | [x], _, _ =>
      unfold decodeN
      rw [if_neg a1]
      repeat' split
      all_goals simp
      all_goals simp_all
      all_goals omega
    | x :: y :: l, h1, h2 =>
      have e1 := h1 x rfl
      have e2 := h2 y rfl
      have hx := u8r x
      have hy := u8r y
      subst e1 e2
      simp only [jCont, Bool.and_eq_true, decide_eq_true_eq]
      generalize x.toNat = X at *
      generalize y.toNat = Y at *
      unfold decodeN
      rw [if_neg a1]
      simp only [List.length_cons]
      rw [if_neg (by omega)]
      by_cases y1 : (128 ≤ X ∧ X ≤ 191) ∧ 128 ≤ Y ∧ Y ≤ 191
      · obtain ⟨y1, y2⟩ := y1
        rw [if_pos (by omega)]
        have ev : C % 16 * 4096 + X % 64 * 64 + Y % 64 = (C - 224) * 4096 + (X - 128) * 64 + (Y - 128) := by omega
        rw [ev]
        by_cases z : 2048 ≤ (C - 224) * 4096 + (X - 128) * 64 + (Y - 128) ∧ ¬ (55296 ≤ (C - 224) * 4096 + (X - 128) * 64 + (Y - 128) ∧ (C - 224) * 4096 + (X - 128) * 64 + (Y - 128) < 57344)
        · rw [if_pos (by omega), if_pos ⟨y1, y2, z⟩]; simp
        · rw [if_neg (by omega), if_neg (fun h => z h.2.2)]; simp
      · rw [if_neg (by omega), if_neg (by omega), if_neg (fun h => y1 ⟨h.1, h.2.1⟩)]; simp
  rw [if_neg a4]
  by_cases a5 : C < 245
  · rw [if_pos a5]
    match l, h1, h2, h3 with
    | [], _, _, _ =>
      unfold decodeN
      rw [if_neg a1]
      repeat' split
      all_goals simp
      all_goals simp_all
      all_goals omega
    | [x], _, _, _ =>
      unfold decodeN
      rw [if_neg a1]
      repeat' split
      all_goals simp
      all_goals simp_all
      all_goals omega
    | [x, y], _, _, _ =>
      unfold decodeN
      rw [if_neg a1]
      repeat' split
      all_goals simp
      all_goals simp_all
      all_goals omega
    | x :: y :: z :: l, h1, h2, h3 =>
      have e1 := h1 x rfl
      have e2 := h2 y rfl
      have e3 := h3 z rfl
      have hx := u8r x
      have hy := u8r y
      have hz := u8r z
      subst e1 e2 e3
      simp only [jCont, Bool.and_eq_true, decide_eq_true_eq]
      generalize x.toNat = X at *
      generalize y.toNat = Y at *
      generalize z.toNat = Z at *
      unfold decodeN
      rw [if_neg a1]
      simp only [List.length_cons]
      rw [if_neg (by omega), if_neg (by omega)]
      by_cases y1 : (128 ≤ X ∧ X ≤ 191) ∧ (128 ≤ Y ∧ Y ≤ 191) ∧ 128 ≤ Z ∧ Z ≤ 191
      · obtain ⟨y1, y2, y3⟩ := y1
        rw [if_pos (by omega)]
        have ev : C % 8 * 262144 + X % 64 * 4096 + Y % 64 * 64 + Z % 64 = (C - 240) * 262144 + (X - 128) * 4096 + (Y - 128) * 64 + (Z - 128) := by omega
        rw [ev]
        by_cases zz : 65536 ≤ (C - 240) * 262144 + (X - 128) * 4096 + (Y - 128) * 64 + (Z - 128) ∧ (C - 240) * 262144 + (X - 128) * 4096 + (Y - 128) * 64 + (Z - 128) ≤ 1114111
        · rw [if_pos (by omega), if_pos ⟨y1, y2, y3, zz⟩]; simp
        · rw [if_neg (by omega), if_neg (fun h => zz h.2.2.2)]; simp
      · rw [if_neg (by omega), if_neg (fun h => y1 ⟨h.1, h.2.1, h.2.2.1⟩)]; simp
  · rw [if_neg a5]
    unfold decodeN
    rw [if_neg a1]
    repeat' split
    all_goals simp
    all_goals omega
theorem rune_sign {r : Nat} (h : r < 1114112) (hs : ¬ (55296 ≤ r ∧ r < 57344)) : encodeRuneZ (r : Int) = (jSign r).map (fun c => (c.toNat : Int)) := by
  unfold jSign
  by_cases a : r < 128
  · rw [if_pos a, encodeRuneZ_one (by omega) (by omega)]
    simp; omega
  rw [if_neg a]
  by_cases b : r < 2048
  · rw [if_pos b, encodeRuneZ_two (by omega) (by omega)]
    simp; omega
  rw [if_neg b]
  by_cases c : r < 65536
  · rw [if_pos c, encodeRuneZ_three (by omega)]
    simp; omega
  · rw [if_neg c, encodeRuneZ_four (by omega) (by omega)]
    simp; omega
end Go.Proofs.YtdekogmegdhjoaaDoor

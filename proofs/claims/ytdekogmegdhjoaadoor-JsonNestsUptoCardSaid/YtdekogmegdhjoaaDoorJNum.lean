/-
  Layer 6 in plain words: numbers, and the library's Itoa and Atoi. No program is named here.
-/
import Derived.Test.YtdekogmegdhjoaaDoorJSpec
import Derived.Lib.ItoaNum
import Derived.Lib.AtoiAll
namespace Go.Proofs.YtdekogmegdhjoaaDoor
open Go.Lib

def jD (c : UInt8) : Nat := c.toNat - 48
theorem jDigs_snoc (l : List UInt8) (c : UInt8) : jDigs (l ++ [c]) = 10 * jDigs l + (c.toNat - 48) := by simp [jDigs]
theorem dig_of (d : Nat) (h : d < 10) : (UInt8.ofNat (48 + d)).toNat = 48 + d := by simp; omega
theorem decDigits_small {u : Nat} (h : u < 10) : decDigits u = [UInt8.ofNat (48 + u)] := by rw [decDigits, dif_pos h]
theorem decDigits_big {u : Nat} (h : ¬ u < 10) : decDigits u = decDigits (u / 10) ++ [UInt8.ofNat (48 + u % 10)] := by rw [decDigits, dif_neg h]
theorem decDigits_ne : ∀ u, decDigits u ≠ [] := fun u => by
  by_cases h : u < 10
  · rw [decDigits_small h]; simp
  · rw [decDigits_big h]; simp
theorem decDigits_val : ∀ u, jDigs (decDigits u) = u
  | u => by
    by_cases h : u < 10
    · rw [decDigits_small h]
      show 10 * 0 + ((UInt8.ofNat (48 + u)).toNat - 48) = u
      rw [dig_of u h]; omega
    · rw [decDigits_big h, jDigs_snoc, decDigits_val (u / 10), dig_of _ (Nat.mod_lt _ (by decide))]
      omega
termination_by u => u
decreasing_by omega
theorem decDigits_dig : ∀ u, (decDigits u).all jDig = true
  | u => by
    by_cases h : u < 10
    · rw [decDigits_small h]
      simp only [List.all_cons, List.all_nil, Bool.and_true, jDig, dig_of u h]
      simp; omega
    · rw [decDigits_big h, List.all_append, decDigits_dig (u / 10)]
      simp only [List.all_cons, List.all_nil, Bool.and_true, jDig, dig_of _ (Nat.mod_lt u (show 0 < 10 by decide))]
      simp; omega
termination_by u => u
decreasing_by omega
theorem decDigits_head : ∀ u, 0 < u → (decDigits u).head? ≠ some 48
  | u, hu => by
    by_cases h : u < 10
    · rw [decDigits_small h]
      intro e
      have e1 : UInt8.ofNat (48 + u) = 48 := by simpa using e
      have e2 := congrArg UInt8.toNat e1
      rw [dig_of u h] at e2
      have e3 : (48 : UInt8).toNat = 48 := rfl
      omega
    · rw [decDigits_big h]
      have ih := decDigits_head (u / 10) (by omega)
      have hne := decDigits_ne (u / 10)
      cases hd : decDigits (u / 10) with
      | nil => exact absurd hd hne
      | cons c l => rw [hd] at ih; simpa using ih
termination_by u => u
decreasing_by omega
theorem decDigits_len : ∀ (k u : Nat), u < 10 ^ (k + 1) → (decDigits u).length ≤ k + 1
  | 0, u, h => by rw [decDigits_small (by simpa using h)]; simp
  | k + 1, u, h => by
    by_cases h10 : u < 10
    · rw [decDigits_small h10]; simp
    · rw [decDigits_big h10, List.length_append]
      have := decDigits_len k (u / 10) (by rw [Nat.pow_succ] at h; omega)
      simp; omega
/-- Digits without a zero at their head are their number's. -/
theorem dig_char {c : UInt8} (h : jDig c = true) : 48 ≤ c.toNat ∧ c.toNat ≤ 57 := by simpa [jDig] using h
theorem jDigs_pos : ∀ (l : List UInt8), l ≠ [] → l.all jDig = true → l.head? ≠ some 48 → 0 < jDigs l := by
  intro l
  cases l with
  | nil => intro h; exact absurd rfl h
  | cons c l =>
    intro _ ha hh
    simp only [List.all_cons, Bool.and_eq_true] at ha
    have hc := dig_char ha.1
    have hc48 : c.toNat ≠ 48 := fun h => hh (by simp; exact UInt8.toNat_inj.1 (by have e : (48 : UInt8).toNat = 48 := rfl; omega))
    have key : ∀ (l : List UInt8) (a : Nat), 0 < a → 0 < l.foldl (fun n c => 10 * n + (c.toNat - 48)) a := by
      intro l
      induction l with
      | nil => intro a h; exact h
      | cons x l ih => intro a h; exact ih _ (by show 0 < 10 * a + _; omega)
    exact key l _ (by show 0 < 10 * 0 + (c.toNat - 48); omega)
theorem decDigits_of : ∀ (n : Nat) (l : List UInt8), l.length = n → l ≠ [] → l.all jDig = true → (l.head? ≠ some 48 ∨ l.length = 1) → decDigits (jDigs l) = l
  | 0, l, hn, hne, _, _ => absurd (List.eq_nil_of_length_eq_zero hn) hne
  | n + 1, l, hn, hne, ha, hh => by
    obtain ⟨t, c, rfl⟩ : ∃ t c, l = t ++ [c] := ⟨l.dropLast, l.getLast hne, (List.dropLast_concat_getLast hne).symm⟩
    simp only [List.all_append, List.all_cons, List.all_nil, Bool.and_true, Bool.and_eq_true] at ha
    have hc := dig_char ha.2
    rw [jDigs_snoc]
    cases t with
    | nil =>
      show decDigits (10 * 0 + (c.toNat - 48)) = [c]
      rw [decDigits_small (by omega)]
      congr 1
      exact UInt8.toNat_inj.1 (by rw [dig_of _ (by omega)]; omega)
    | cons x t =>
      have hh2 : (x :: t).head? ≠ some 48 := by
        rcases hh with h | h
        · simpa using h
        · simp at h
      have hpos := jDigs_pos (x :: t) (by simp) ha.1 hh2
      have ih := decDigits_of n (x :: t) (by simpa using hn) (by simp) ha.1 (.inl hh2)
      rw [decDigits_big (by omega), show (10 * jDigs (x :: t) + (c.toNat - 48)) / 10 = jDigs (x :: t) by omega, ih]
      congr 2
      exact UInt8.toNat_inj.1 (by rw [dig_of _ (Nat.mod_lt _ (by decide))]; omega)
theorem parseUint10_ok : ∀ (l : List UInt8) (acc : Nat), l.all jDig = true → l.foldl (fun n c => 10 * n + (c.toNat - 48)) acc < 18446744073709551616 → parseUint10 acc l = .ok (l.foldl (fun n c => 10 * n + (c.toNat - 48)) acc)
  | [], acc, _, _ => rfl
  | c :: l, acc, ha, hlt => by
    simp only [List.all_cons, Bool.and_eq_true] at ha
    have hc := dig_char ha.1
    have mono : ∀ (l : List UInt8) (a : Nat), a ≤ l.foldl (fun n c => 10 * n + (c.toNat - 48)) a := by
      intro l
      induction l with
      | nil => intro a; exact Nat.le_refl _
      | cons x l ih => intro a; exact Nat.le_trans (by show a ≤ 10 * a + _; omega) (ih _)
    rw [List.foldl_cons] at hlt ⊢
    have hm := mono l (10 * acc + (c.toNat - 48))
    rw [parseUint10, if_pos hc, if_neg (by omega), if_neg (by omega), show acc * 10 + (c.toNat - 48) = 10 * acc + (c.toNat - 48) by omega]
    exact parseUint10_ok l _ ha.2 hlt
theorem jNum_lib {s : List UInt8} {v : Int} (h : jNum s = some v) : itoa v = s ∧ atoiAll s = .ok v ∧ -9007199254740991 ≤ v ∧ v ≤ 9007199254740991 := by
  unfold jNum at h
  cases s with
  | nil => simp at h
  | cons c r =>
    by_cases hc : c = 45
    · subst hc
      simp only [List.head?_cons, beq_self_eq_true, if_true, List.tail_cons] at h
      split at h
      · rename_i hh
        obtain ⟨h1, h2, h3, h4, h5⟩ := hh
        injection h with h
        have h3' : r.head? ≠ some 48 := by
          rcases h3 with h3 | ⟨_, h3⟩
          · exact h3
          · cases h3
        have hpos := jDigs_pos r h1 h4 h3'
        have hd := decDigits_of r.length r rfl h1 h4 (.inl h3')
        subst h
        refine ⟨?_, ?_, by omega, by omega⟩
        · unfold itoa
          rw [if_pos (by omega), Int.natAbs_neg, Int.natAbs_natCast, hd]
        · unfold atoiAll
          have e45 : (45 : UInt8).toNat = 45 := rfl
          simp only [e45]
          rw [if_pos (by simp)]
          unfold parseMag
          rw [if_neg h1, parseUint10_ok r 0 h4 (by show jDigs r < _; omega)]
          simp only []
          rw [if_neg (by simp), if_neg (by show ¬ (True ∧ _ < jDigs r); omega)]
          simp [jDigs]
      · cases h
    · have hn : ((c :: r).head? == some 45) = false := by simpa using hc
      simp only [hn, Bool.false_eq_true, if_false] at h
      split at h
      · rename_i hh
        obtain ⟨h1, h2, h3, h4, h5⟩ := hh
        injection h with h
        have h3' : (c :: r).head? ≠ some 48 ∨ (c :: r).length = 1 := by
          rcases h3 with h3 | ⟨h3, _⟩
          · exact .inl h3
          · exact .inr h3
        have hd := decDigits_of (c :: r).length (c :: r) rfl h1 h4 h3'
        have hcd := dig_char (show jDig c = true by simp only [List.all_cons, Bool.and_eq_true] at h4; exact h4.1)
        subst h
        refine ⟨?_, ?_, by omega, by omega⟩
        · unfold itoa
          rw [if_neg (by omega), Int.toNat_natCast, hd]
        · unfold atoiAll
          simp only []
          rw [if_neg (by omega)]
          unfold parseMag
          rw [if_neg h1, parseUint10_ok (c :: r) 0 h4 (by show jDigs (c :: r) < _; omega)]
          simp only []
          have hc45 : ¬ c.toNat = 45 := by omega
          rw [if_neg (by show ¬ (_ ∧ _ ≤ jDigs (c :: r)); omega), if_neg (fun hx => hc45 hx.1), if_neg hc45]
          rfl
      · cases h
theorem jNum_itoa {v : Int} (h0 : -9007199254740991 ≤ v) (h1 : v ≤ 9007199254740991) : jNum (itoa v) = some v := by
  unfold itoa
  by_cases hn : v < 0
  · rw [if_pos hn]
    unfold jNum
    simp only [List.head?_cons, beq_self_eq_true, if_true, List.tail_cons]
    have hl := decDigits_len 15 v.natAbs (by omega)
    rw [if_pos ⟨decDigits_ne _, hl, .inl (decDigits_head _ (by omega)), decDigits_dig _, by rw [decDigits_val]; omega⟩, decDigits_val]
    congr 1
    omega
  · rw [if_neg hn]
    unfold jNum
    have hd := decDigits_dig v.toNat
    have hne := decDigits_ne v.toNat
    have h45 : ((decDigits v.toNat).head? == some 45) = false := by
      cases hdd : decDigits v.toNat with
      | nil => exact absurd hdd hne
      | cons c l =>
        rw [hdd] at hd
        simp only [List.all_cons, Bool.and_eq_true] at hd
        have := dig_char hd.1
        simp
        intro e
        rw [e] at this
        have : (45 : UInt8).toNat = 45 := rfl
        omega
    simp only [h45, Bool.false_eq_true, if_false]
    have hl := decDigits_len 15 v.toNat (by omega)
    have h3 : (decDigits v.toNat).head? ≠ some 48 ∨ (decDigits v.toNat).length = 1 ∧ False = False := by
      by_cases hz : v.toNat = 0
      · right; rw [hz, decDigits_small (by decide)]; simp
      · exact .inl (decDigits_head _ (by omega))
    rw [if_pos ⟨hne, hl, by rcases h3 with h | ⟨h, _⟩; exact .inl h; exact .inr ⟨h, trivial⟩, hd, by rw [decDigits_val]; omega⟩, decDigits_val]
    congr 1
    omega
end Go.Proofs.YtdekogmegdhjoaaDoor

/-
  Layer 7 in plain words: names of repositories, tags, media types. No program is named here.
-/
import Derived.Test.YtgcoebndhnijgaaDoorLib
import Derived.Lib.Split
import Derived.Lib.IndexMore
namespace Go.Proofs.YtgcoebndhnijgaaDoor
open Go.RowKit

def smallB (c : UInt8) : Bool := decide (97 ≤ c.toNat ∧ c.toNat ≤ 122 ∨ 48 ≤ c.toNat ∧ c.toNat ≤ 57)
def signB (c : UInt8) : Bool := decide ((97 ≤ c.toNat ∧ c.toNat ≤ 122 ∨ 48 ≤ c.toNat ∧ c.toNat ≤ 57) ∨ 65 ≤ c.toNat ∧ c.toNat ≤ 90)

/-- The machine of a repository's name: 0 at the beginning of a part, 1 within a run, 2 behind a separator that is whole, 3 behind one _, 4 behind some -. -/
def step (q : Nat) (c : UInt8) : Option Nat :=
  if smallB c = true then some 1 else if c = 47 then (if q = 1 then some 0 else none) else if c = 46 then (if q = 1 then some 2 else none)
  else if c = 95 then (if q = 1 then some 3 else if q = 3 then some 2 else none) else if c = 45 then (if q = 1 ∨ q = 4 then some 4 else none) else none
def acc : Nat → List UInt8 → Bool
  | q, [] => q == 1
  | q, c :: l => match step q c with
    | none => false
    | some q' => acc q' l
theorem acc_step {l : List UInt8} {k q q' : Nat} {c : UInt8} (h : l[k]? = some c) (hs : step q c = some q') : acc q (l.drop k) = acc q' (l.drop (k + 1)) := by
  obtain ⟨hk, rfl⟩ := List.getElem?_eq_some_iff.1 h
  rw [List.drop_eq_getElem_cons hk, acc, hs]
theorem acc_stop {l : List UInt8} {k q : Nat} {c : UInt8} (h : l[k]? = some c) (hs : step q c = none) : acc q (l.drop k) = false := by
  obtain ⟨hk, rfl⟩ := List.getElem?_eq_some_iff.1 h
  rw [List.drop_eq_getElem_cons hk, acc, hs]
def repoB (l : List UInt8) : Bool := acc 0 l && decide (l.length ≤ 128)
/-- What a byte is to the machine. -/
theorem kind (c : UInt8) : smallB c = true ∨ c = 47 ∨ c = 46 ∨ c = 95 ∨ c = 45 ∨ (smallB c = false ∧ c ≠ 47 ∧ c ≠ 46 ∧ c ≠ 95 ∧ c ≠ 45) := by
  by_cases h : smallB c = true
  · exact .inl h
  · by_cases h1 : c = 47
    · exact .inr (.inl h1)
    · by_cases h2 : c = 46
      · exact .inr (.inr (.inl h2))
      · by_cases h3 : c = 95
        · exact .inr (.inr (.inr (.inl h3)))
        · by_cases h4 : c = 45
          · exact .inr (.inr (.inr (.inr (.inl h4))))
          · exact .inr (.inr (.inr (.inr (.inr ⟨by simpa using h, h1, h2, h3, h4⟩))))
theorem step_small {q : Nat} {c : UInt8} (h : smallB c = true) : step q c = some 1 := by unfold step; rw [if_pos h]
theorem step_other {q : Nat} {c : UInt8} (h : smallB c = false ∧ c ≠ 47 ∧ c ≠ 46 ∧ c ≠ 95 ∧ c ≠ 45) : step q c = none := by
  unfold step
  rw [if_neg (by simp [h.1]), if_neg h.2.1, if_neg h.2.2.1, if_neg h.2.2.2.1, if_neg h.2.2.2.2]
theorem u8_ne {c d : UInt8} (h : c ≠ d) : ((c.toNat : Int) == (d.toNat : Int)) = false := by
  rw [beq_eq_false_iff_ne]
  intro e
  exact h (UInt8.toNat_inj.1 (by omega))
theorem u8_ne' {c d : UInt8} (h : c ≠ d) : ((c.toNat : Int) != (d.toNat : Int)) = true := by rw [bne, u8_ne h]; rfl

/-! one part -/
def stepP (q : Nat) (c : UInt8) : Option Nat := if c = 47 then none else step q c
def accP : Nat → List UInt8 → Bool
  | q, [] => q == 1
  | q, c :: l => match stepP q c with
    | none => false
    | some q' => accP q' l
theorem small_ne {c : UInt8} (h : smallB c = true) : c ≠ 47 := by rintro rfl; revert h; decide
theorem stepP_small {q : Nat} {c : UInt8} (h : smallB c = true) : stepP q c = some 1 := by unfold stepP; rw [if_neg (small_ne h), step_small h]
theorem accP_smalls : ∀ (k : Nat) (l : List UInt8) (q : Nat), k ≤ l.length → (∀ j c, j < k → l[j]? = some c → smallB c = true) → 0 < k → accP q l = accP 1 (l.drop k)
  | 0, l, q, _, _, h => absurd h (by omega)
  | 1, [], q, h, _, _ => by simp at h
  | 1, c :: l, q, _, hs, _ => by rw [accP, stepP_small (hs 0 c (by omega) rfl)]; rfl
  | k + 2, [], q, h, _, _ => by simp at h
  | k + 2, c :: l, q, h, hs, _ => by
    rw [accP, stepP_small (hs 0 c (by omega) rfl)]
    exact accP_smalls (k + 1) l 1 (by simpa using h) (fun j d hj hd => hs (j + 1) d (by omega) (by simpa using hd)) (by omega)
theorem stepP_ns {q : Nat} {c : UInt8} (h : smallB c = false) : stepP q c = if c = 46 then (if q = 1 then some 2 else none) else if c = 95 then (if q = 1 then some 3 else if q = 3 then some 2 else none) else if c = 45 then (if q = 1 ∨ q = 4 then some 4 else none) else none := by
  have hn : ¬ smallB c = true := by rw [h]; simp
  by_cases h47 : c = 47
  · subst h47; rfl
  · unfold stepP step
    rw [if_neg h47, if_neg hn, if_neg h47]
theorem step0_none {c : UInt8} (h : smallB c = false) : stepP 0 c = none := by
  rw [stepP_ns h]
  simp
theorem accP_none {c : UInt8} {l : List UInt8} (h : smallB c = false) : accP 0 (c :: l) = false := by rw [accP, step0_none h]
/-- In these states only a small letter or a digit may follow. -/
theorem accP_like {q : Nat} (hq : q = 2 ∨ q = 3 ∨ q = 4) (l : List UInt8) (h : ∀ c, l[0]? = some c → (q = 3 → c ≠ 95) ∧ (q = 4 → c ≠ 45)) : accP q l = accP 0 l := by
  cases l with
  | nil => rcases hq with rfl | rfl | rfl <;> rfl
  | cons c l =>
    have h1 := h c rfl
    cases hs : smallB c with
    | true => rw [accP, accP, stepP_small hs, stepP_small hs]
    | false =>
      rw [accP_none hs, accP]
      have : stepP q c = none := by
        rw [stepP_ns hs]
        rcases hq with rfl | rfl | rfl <;> simp_all
      rw [this]
/-- How long the separator is that stands ahead. -/
def dashes : List UInt8 → Nat
  | [] => 0
  | c :: l => if c = 45 then dashes l + 1 else 0
def markN (l : List UInt8) : Nat := if Lib.hasPrefix l [95, 95] = true then 2 else if l[0]? = some 46 ∨ l[0]? = some 95 then 1 else dashes l
theorem dashes_le : ∀ l : List UInt8, dashes l ≤ l.length
  | [] => Nat.le_refl _
  | c :: l => by unfold dashes; have := dashes_le l; split <;> simp <;> omega
theorem dashes_at : ∀ (l : List UInt8) (k : Nat), (∀ j, j < k → l[j]? = some 45) → l[k]? ≠ some 45 → dashes l = k
  | [], 0, _, _ => rfl
  | [], k + 1, h, _ => by have := h 0 (by omega); simp at this
  | c :: l, 0, _, h => by unfold dashes; rw [if_neg]; simpa using h
  | c :: l, k + 1, h, h' => by
    have h0 := h 0 (by omega)
    simp at h0
    unfold dashes
    rw [if_pos h0, dashes_at l k (fun j hj => by simpa using h (j + 1) (by omega)) (by simpa using h')]
theorem accP_dashes : ∀ (l : List UInt8), accP 4 l = accP 0 (l.drop (dashes l))
  | [] => rfl
  | c :: l => by
    unfold dashes
    by_cases hc : c = 45
    · subst hc
      rw [if_pos rfl, List.drop_succ_cons, ← accP_dashes l, accP]
      rfl
    · rw [if_neg hc]
      exact accP_like (.inr (.inr rfl)) _ fun d hd => ⟨(fun h => by cases h), (fun _ => by simp at hd; rw [← hd]; exact hc)⟩
theorem mark_le (l : List UInt8) (h : 0 < l.length) : markN l ≤ l.length := by
  unfold markN
  split
  · rename_i h2
    cases l with
    | nil => cases h2
    | cons a l => cases l with
      | nil => simp [Lib.hasPrefix, List.isPrefixOf] at h2
      | cons b l => simp
  · split
    · omega
    · exact dashes_le l
theorem mark_acc {c : UInt8} {l : List UInt8} (h : smallB c = false) : (markN (c :: l) = 0 → accP 1 (c :: l) = false) ∧ (0 < markN (c :: l) → accP 1 (c :: l) = accP 0 ((c :: l).drop (markN (c :: l)))) := by
  unfold markN
  by_cases h1 : Lib.hasPrefix (c :: l) [95, 95] = true
  · rw [if_pos h1]
    refine ⟨(fun h => by cases h), fun _ => ?_⟩
    cases l with
    | nil => simp [Lib.hasPrefix, List.isPrefixOf] at h1
    | cons d l =>
      simp [Lib.hasPrefix, List.isPrefixOf] at h1
      obtain ⟨rfl, rfl⟩ := h1
      show accP 2 l = accP 0 l
      exact accP_like (.inl rfl) _ fun d _ => ⟨(fun h => by cases h), (fun h => by cases h)⟩
  · rw [if_neg h1]
    by_cases h2 : (c :: l)[0]? = some 46 ∨ (c :: l)[0]? = some 95
    · rw [if_pos h2]
      refine ⟨(fun h => by cases h), fun _ => ?_⟩
      simp only [List.getElem?_cons_zero, Option.some.injEq] at h2
      rcases h2 with rfl | rfl
      · show accP 2 l = accP 0 l
        exact accP_like (.inl rfl) _ fun d _ => ⟨(fun h => by cases h), (fun h => by cases h)⟩
      · show accP 3 l = accP 0 l
        refine accP_like (.inr (.inl rfl)) _ fun d hd => ⟨fun _ => ?_, (fun h => by cases h)⟩
        rintro rfl
        cases l with
        | nil => cases hd
        | cons e l =>
          simp only [List.getElem?_cons_zero, Option.some.injEq] at hd
          subst hd
          exact h1 rfl
    · rw [if_neg h2]
      simp only [List.getElem?_cons_zero, Option.some.injEq, not_or] at h2
      unfold dashes
      by_cases hc : c = 45
      · subst hc
        rw [if_pos rfl]
        refine ⟨(fun h => by cases h), fun _ => ?_⟩
        rw [List.drop_succ_cons, ← accP_dashes l]
        rfl
      · rw [if_neg hc]
        refine ⟨fun _ => ?_, (fun h => by cases h)⟩
        rw [accP]
        have : stepP 1 c = none := by
          rw [stepP_ns h, if_neg h2.1, if_neg h2.2, if_neg hc]
        rw [this]

/-! a name's parts -/
def parts47 : List UInt8 → List (List UInt8)
  | [] => [[]]
  | c :: l => if c = 47 then [] :: parts47 l else match parts47 l with
    | [] => [[c]]
    | p :: ps => (c :: p) :: ps
theorem parts_ne : ∀ l : List UInt8, parts47 l ≠ []
  | [] => by simp [parts47]
  | c :: l => by
    unfold parts47
    split
    · simp
    · split <;> simp
theorem acc_parts : ∀ (l : List UInt8) (q : Nat), acc q l = match parts47 l with
    | [] => false
    | p :: ps => accP q p && ps.all (accP 0)
  | [], q => by simp [parts47, acc, accP]
  | c :: l, q => by
    have ih := acc_parts l
    unfold parts47
    by_cases hc : c = 47
    · subst hc
      rw [if_pos rfl]
      simp only [accP]
      rw [acc]
      have hst : step q 47 = if q = 1 then some 0 else none := rfl
      rw [hst]
      by_cases hq : q = 1
      · subst hq
        rw [if_pos rfl]
        simp only [ih 0]
        cases hp : parts47 l with
        | nil => exact absurd hp (parts_ne l)
        | cons p ps => simp
      · rw [if_neg hq]
        simp [hq]
    · rw [if_neg hc]
      cases hp : parts47 l with
      | nil => exact absurd hp (parts_ne l)
      | cons p ps =>
        simp only [accP, acc]
        have : stepP q c = step q c := by unfold stepP; rw [if_neg hc]
        rw [this]
        cases hs : step q c with
        | none => simp
        | some q' => simp only [ih q', hp]
theorem acc_all (l : List UInt8) : acc 0 l = (parts47 l).all (accP 0) := by
  rw [acc_parts]
  cases hp : parts47 l with
  | nil => exact absurd hp (parts_ne l)
  | cons p ps => simp
end Go.Proofs.YtgcoebndhnijgaaDoor

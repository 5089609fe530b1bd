/-
  Layer 6: the program's reader: texts.
-/
import Derived.Test.YtdekogmegdhjoaaDoorJLib
import Derived.Test.YtdekogmegdhjoaaDoorFr8
namespace Go.Proofs.YtdekogmegdhjoaaDoor
open Go.RowKit
set_option linter.unusedSimpArgs false

theorem jSize_le (l : List UInt8) : jSize l ≤ l.length ∧ jSize l ≤ 4 := by
  unfold jSize
  cases l with
  | nil => simp
  | cons c l =>
    simp only [List.length_cons]
    repeat' split
    all_goals simp
    all_goals omega
theorem jSign_len (n : Nat) : (jSign n).length ≤ 4 := by
  unfold jSign
  repeat' split
  all_goals simp
theorem ok_pair {α β : Type} {a c : α} {b d : β} (h : (Except.ok (a, b) : JR (α × β)) = .ok (c, d)) : a = c ∧ b = d := by
  injection h with h; injection h with h1 h2; exact ⟨h1, h2⟩
theorem jEsc2_len {b : List UInt8} {p n : Nat} {e : List UInt8} {q : Nat} (h : jEsc2 b p n = .ok (e, q)) : e.length ≤ 4 ∧ p + 2 ≤ q ∧ q ≤ b.length := by
  unfold jEsc2 at h
  cases hu : jUnit b p 4 0 (p + 8) with
  | error x => rw [hu] at h; cases h
  | ok m =>
    rw [hu] at h
    simp only [] at h
    by_cases hm : 56320 ≤ m ∧ m < 57344
    · rw [if_pos hm] at h
      obtain ⟨rfl, rfl⟩ := ok_pair h
      have := jUnit_lt (N := 0) (j := 0) (by decide) hu
      exact ⟨jSign_len _, by omega, by omega⟩
    · rw [if_neg hm] at h; cases h
theorem jEscape_len {b : List UInt8} {p : Nat} {e : List UInt8} {q : Nat} (h : jEscape b p = .ok (e, q)) : e.length ≤ 4 ∧ p + 2 ≤ q ∧ q ≤ b.length := by
  by_cases hc : b[p + 1]? = some 117
  · rw [jEscape_u hc] at h
    cases hu : jUnit b p 4 0 (p + 2) with
    | error x => rw [hu] at h; cases h
    | ok n =>
      rw [hu] at h
      simp only [] at h
      by_cases h1 : 55296 ≤ n ∧ n < 56320
      · rw [if_pos h1] at h
        unfold jEsc0 at h
        cases hx : b[p + 6]? with
        | none => rw [hx] at h; cases h
        | some x =>
          rw [hx] at h
          simp only [] at h
          by_cases hx2 : x ≠ 92
          · rw [if_pos hx2] at h; cases h
          · rw [if_neg hx2] at h
            unfold jEsc1 at h
            cases hy : b[p + 7]? with
            | none => rw [hy] at h; cases h
            | some y =>
              rw [hy] at h
              simp only [] at h
              by_cases hy2 : y ≠ 117
              · rw [if_pos hy2] at h; cases h
              · rw [if_neg hy2] at h
                exact jEsc2_len h
      · rw [if_neg h1] at h
        by_cases h2 : 56320 ≤ n ∧ n < 57344
        · rw [if_pos h2] at h; cases h
        · rw [if_neg h2] at h
          obtain ⟨rfl, rfl⟩ := ok_pair h
          have := jUnit_lt (N := 0) (j := 0) (by decide) hu
          exact ⟨jSign_len _, by omega, by omega⟩
  · unfold jEscape at h
    cases hx : b[p + 1]? with
    | none => rw [hx] at h; cases h
    | some c =>
      have h1 := (List.getElem?_eq_some_iff.1 hx).1
      rw [hx] at h hc
      simp only [] at h
      have key : ∀ (P : Prop) [Decidable P] (l : List UInt8) (X : JR (List UInt8 × Nat)), l.length = 1 → (X = .ok (e, q) → e.length ≤ 4 ∧ p + 2 ≤ q ∧ q ≤ b.length) → (if P then .ok (l, p + 2) else X) = .ok (e, q) → e.length ≤ 4 ∧ p + 2 ≤ q ∧ q ≤ b.length := fun P _ l X hl hX hh => by
        by_cases hP : P
        · rw [if_pos hP] at hh
          obtain ⟨rfl, rfl⟩ := ok_pair hh
          exact ⟨by omega, by omega, by omega⟩
        · rw [if_neg hP] at hh; exact hX hh
      refine key _ _ _ rfl (fun h => ?_) h
      refine key _ _ _ rfl (fun h => ?_) h
      refine key _ _ _ rfl (fun h => ?_) h
      refine key _ _ _ rfl (fun h => ?_) h
      refine key _ _ _ rfl (fun h => ?_) h
      refine key _ _ _ rfl (fun h => ?_) h
      rw [if_neg (fun hh => hc (by rw [hh]))] at h
      cases h
theorem jTextL_fuel {b : List UInt8} : ∀ {f f' p : Nat} {out : List UInt8}, b.length + 1 - p ≤ f → b.length + 1 - p ≤ f' → jTextL b f p out = jTextL b f' p out
  | f, f', p, out, h1, h2 => by
    by_cases hp : b.length ≤ p
    · have hn : b[p]? = none := List.getElem?_eq_none hp
      have key : ∀ f, jTextL b f p out = .error (b.length, 9) := fun f => by
        cases f with
        | zero => rfl
        | succ f => unfold jTextL; rw [hn]
      rw [key, key]
    · match f, f', h1, h2 with
      | 0, _, h1, _ => omega
      | _, 0, _, h2 => omega
      | f + 1, f' + 1, h1, h2 =>
        unfold jTextL
        cases hx : b[p]? with
        | none => rfl
        | some c =>
          simp only []
          split
          · rfl
          · split
            · cases he : jEscape b p with
              | error x => rfl
              | ok r =>
                obtain ⟨e, q⟩ := r
                have := jEscape_len he
                exact jTextL_fuel (by omega) (by omega)
            · split
              · rfl
              · split
                · rfl
                · rename_i hs
                  exact jTextL_fuel (by omega) (by omega)
theorem jText_step {b : List UInt8} {p : Nat} {out : List UInt8} (hp : p < b.length) : jTextL b (b.length + 1 - p) p out = match b[p]? with
    | none => .error (b.length, 9)
    | some c =>
      if c = 34 then .ok (out, p + 1)
      else if c = 92 then match jEscape b p with
        | .error x => .error x
        | .ok (e, q) => jTextL b (b.length + 1 - q) q (out ++ e)
      else if c.toNat < 32 then .error (p, 60)
      else if jSize (b.drop p) = 0 then .error (p, 61)
      else jTextL b (b.length + 1 - (p + jSize (b.drop p))) (p + jSize (b.drop p)) (out ++ (b.drop p).take (jSize (b.drop p))) := by
  rw [show b.length + 1 - p = (b.length - p) + 1 by omega, jTextL]
  cases hx : b[p]? with
  | none => rfl
  | some c =>
    simp only []
    split
    · rfl
    · split
      · cases he : jEscape b p with
        | error x => rfl
        | ok r =>
          obtain ⟨e, q⟩ := r
          have := jEscape_len he
          exact jTextL_fuel (by omega) (by omega)
      · split
        · rfl
        · split
          · rfl
          · rename_i hs
            exact jTextL_fuel (by omega) (by omega)
end Go.Proofs.YtdekogmegdhjoaaDoor

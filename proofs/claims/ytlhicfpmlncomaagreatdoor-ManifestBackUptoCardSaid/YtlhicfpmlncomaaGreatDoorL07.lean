/-
 Layer 6 in plain words: how far values go.
-/
import Derived.Test.YtlhicfpmlncomaaGreatDoorL06
set_option linter.unusedSimpArgs false
namespace Go.Proofs.YtlhicfpmlncomaaGreatDoor
theorem jNext_ok {b : List UInt8} {p : Nat} {c : UInt8} (h : jNext b p = .ok c) : b[p]? = some c := by
 unfold jNext at h
 cases hx : b[p]? with
 | none => rw [hx] at h; cases h
 | some x => rw [hx] at h; injection h with h; rw [h]
/-- One step of a list or an object. -/
theorem jManyL_step {b : List UInt8} {kind : Int} {fin : UInt8} {val : Nat → Nat → JR (JV × Nat × Nat)} {f p m : Nat} {names : List (List UInt8)} {kids : List JV} {x : JV × Nat × Nat} (h : jManyL b kind fin val (f + 1) p m names kids = .ok x) :
  ∃ s q v r m' c, (if kind = 6 then jName b names p else .ok ([], p)) = .ok (s, q) ∧ val q m = .ok (v, r, m') ∧ b[jBlanks b r]? = some c ∧
   (x = (.mk kind 0 [] (if kind = 6 then names ++ [s] else names) (kids ++ [v]), jBlanks b r + 1, m') ∨
    jManyL b kind fin val f (jBlanks b (jBlanks b r + 1)) m' (if kind = 6 then names ++ [s] else names) (kids ++ [v]) = .ok x) := by
 rw [jManyL] at h
 cases h1 : (if kind = 6 then jName b names p else .ok ([], p)) with
 | error z => rw [h1] at h; cases h
 | ok r =>
  obtain ⟨s, q⟩ := r
  rw [h1] at h
  simp only [] at h
  cases h2 : val q m with
  | error z => rw [h2] at h; cases h
  | ok r =>
   obtain ⟨v, r, m'⟩ := r
   rw [h2] at h
   simp only [] at h
   cases h3 : jNext b (jBlanks b r) with
   | error z => rw [h3] at h; cases h
   | ok c =>
    rw [h3] at h
    simp only [] at h
    refine ⟨s, q, v, r, m', c, rfl, h2, jNext_ok h3, ?_⟩
    by_cases hc : c = fin
    ·rw [if_pos hc] at h
     injection h with h
     exact .inl h.symm
    ·rw [if_neg hc] at h
     cases h4 : jWord b [44] (jBlanks b r) with
     | error z => rw [h4] at h; cases h
     | ok t =>
      rw [h4] at h
      simp only [] at h
      obtain rfl : t = jBlanks b r + 1 := (jWord_le h4).1
      exact .inr h
/-- What a value's reader goes by. -/
def ValLen (b : List UInt8) (val : Nat → Nat → JR (JV × Nat × Nat)) : Prop := ∀ (p m : Nat) (v : JV) (q m' : Nat), m ≤ 4096 → val p m = .ok (v, q, m') → p < q ∧ q ≤ b.length ∧ m < m' ∧ m' ≤ 4096
theorem jManyL_len {b : List UInt8} {kind : Int} {fin : UInt8} {val : Nat → Nat → JR (JV × Nat × Nat)} (hv : ValLen b val) : ∀ {f p m : Nat} {names : List (List UInt8)} {kids : List JV} {v : JV} {q m' : Nat}, m ≤ 4096 → jManyL b kind fin val f p m names kids = .ok (v, q, m') → p < q ∧ q ≤ b.length ∧ m < m' ∧ m' ≤ 4096
 | 0, _, _, _, _, _, _, _, _, h => by cases h
 | f + 1, p, m, names, kids, v, q, m', hm, h => by
  obtain ⟨s, q1, v1, r, m1, c, h1, h2, h3, h4⟩ := jManyL_step h
  have hq1 : p ≤ q1 := by
   split at h1
   ·have := jName_len h1; omega
   ·injection h1 with h1; injection h1 with _ h1; omega
  have hv1 := hv _ _ _ _ _ hm h2
  have hr := jBlanks_ge b r
  have hb := (List.getElem?_eq_some_iff.1 h3).1
  rcases h4 with h4 | h4
  ·injection h4 with h4 h5
   injection h5 with h5 h6
   omega
  ·have h5 := jManyL_len hv hv1.2.2.2 h4
   have := jBlanks_ge b (jBlanks b r + 1)
   omega
theorem jMany_len {b : List UInt8} {kind : Int} {fin : UInt8} {val : Option (Nat → Nat → JR (JV × Nat × Nat))} (hv : ∀ f, val = some f → ValLen b f) {p m : Nat} {v : JV} {q m' : Nat} (hm : m ≤ 4096) (h : jMany b kind fin val p m = .ok (v, q, m')) : p < q ∧ q ≤ b.length ∧ m ≤ m' ∧ m' ≤ 4096 := by
 unfold jMany at h
 cases val with
 | none => cases h
 | some f =>
  simp only [] at h
  cases h3 : jNext b (jBlanks b (p + 1)) with
  | error z => rw [h3] at h; cases h
  | ok c =>
   rw [h3] at h
   simp only [] at h
   have hb := (List.getElem?_eq_some_iff.1 (jNext_ok h3)).1
   have hg := jBlanks_ge b (p + 1)
   split at h
   ·injection h with h
    injection h with _ h
    injection h with h1 h2
    omega
   ·have := jManyL_len (hv f rfl) hm h
    omega
theorem jNumber_len {b : List UInt8} {p q : Nat} {x : Int} (hp : p < b.length) (h : jNumber b p = .ok (x, q)) : p < q ∧ q ≤ b.length := by
 unfold jNumber at h
 simp only [] at h
 cases hj : jNum ((b.drop p).takeWhile jNumC) with
 | none => rw [hj] at h; cases h
 | some v =>
  rw [hj] at h
  obtain ⟨_, rfl⟩ := ok_pair h
  have h1 : ((b.drop p).takeWhile jNumC).length ≠ 0 := fun h0 => by
   rw [List.eq_nil_of_length_eq_zero h0] at hj
   cases hj
  have h2 := (List.takeWhile_sublist jNumC (l := b.drop p)).length_le
  rw [List.length_drop] at h2
  omega
theorem jValueW_len {b : List UInt8} {val : Option (Nat → Nat → JR (JV × Nat × Nat))} (hv : ∀ f, val = some f → ValLen b f) {p m : Nat} {v : JV} {q m' : Nat} (hm : m ≤ 4096) (h : jValueW b val p m = .ok (v, q, m')) : p < q ∧ q ≤ b.length ∧ m < m' ∧ m' ≤ 4096 := by
 unfold jValueW at h
 cases hx : b[p]? with
 | none => rw [hx] at h; cases h
 | some c =>
  have hp := (List.getElem?_eq_some_iff.1 hx).1
  rw [hx] at h
  simp only [] at h
  split at h
  ·cases h
  ·rename_i hm4
   have lit : ∀ {l : List UInt8} {u : JV}, l ≠ [] → jLit b l u p (m + 1) = .ok (v, q, m') → p < q ∧ q ≤ b.length ∧ m < m' ∧ m' ≤ 4096 := fun {l u} hl hj => by
    unfold jLit at hj
    cases hw : jWord b l p with
    | error z => rw [hw] at hj; cases hj
    | ok t =>
     rw [hw] at hj
     simp only [] at hj
     injection hj with hj
     injection hj with _ hj
     injection hj with h1 h2
     have h3 := jWord_le hw
     have h4 := h3.2.resolve_left hl
     have h5 : 0 < l.length := List.length_pos_iff.2 hl
     omega
   split at h
   ·exact lit (by simp) h
   ·split at h
    ·exact lit (by simp) h
    ·split at h
     ·exact lit (by simp) h
     ·split at h
      ·cases hn : jNumber b p with
       | error z => rw [hn] at h; cases h
       | ok r =>
        obtain ⟨x, t⟩ := r
        rw [hn] at h
        injection h with h
        injection h with _ h
        injection h with h1 h2
        have := jNumber_len hp hn
        omega
      ·split at h
       ·cases hn : jText b p with
        | error z => rw [hn] at h; cases h
        | ok r =>
         obtain ⟨x, t⟩ := r
         rw [hn] at h
         injection h with h
         injection h with _ h
         injection h with h1 h2
         have := jText_len hn
         omega
       ·split at h
        ·have := jMany_len hv (by omega) h
         omega
        ·split at h
         ·have := jMany_len hv (by omega) h
          omega
         ·cases h
theorem jValue_len {b : List UInt8} : ∀ (d : Nat), ValLen b (jValue b d)
 | 0, p, m, v, q, m', hm, h => jValueW_len (val := none) (fun f hf => by cases hf) hm h
 | d + 1, p, m, v, q, m', hm, h => jValueW_len (val := some (jValue b d)) (fun f hf => by injection hf with hf; subst hf; exact jValue_len d) hm h
end Go.Proofs.YtlhicfpmlncomaaGreatDoor

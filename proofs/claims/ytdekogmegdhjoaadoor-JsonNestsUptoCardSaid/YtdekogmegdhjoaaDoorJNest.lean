/-
  Layer 6 in plain words: lists and objects in one another; a list of many values.
-/
import Derived.Test.YtdekogmegdhjoaaDoorJV
namespace Go.Proofs.YtdekogmegdhjoaaDoor

def nestP : Nat → List UInt8
  | 0 => []
  | i + 1 => nestP i ++ (if i % 2 = 0 then [91] else [123, 34, 97, 34, 58])
def nestC : Nat → List UInt8
  | 0 => []
  | i + 1 => (if i % 2 = 0 then 93 else 125) :: nestC i
def nestOk (d : Nat) : Bool :=
  match jParse (nestP d ++ [49] ++ nestC d) with
  | .ok v => decide (d ≤ 16) && (decide (d = 0) || v.kids.length == 1)
  | .error x => decide (16 < d) && (x.2 == 64) && decide (x.1 < (nestP d).length)
theorem nests_ok : ∀ d, d < 20 → nestOk d = true := by decide +kernel
theorem nestP_len : ∀ d, (nestP d).length ≤ 5 * d
  | 0 => Nat.le_refl _
  | d + 1 => by
    have := nestP_len d
    rw [nestP, List.length_append]
    split <;> simp <;> omega
theorem nestC_len : ∀ d, (nestC d).length = d
  | 0 => rfl
  | d + 1 => by rw [nestC, List.length_cons, nestC_len d]
def zB : Nat → List UInt8
  | 0 => [91]
  | i + 1 => zB i ++ (if i = 0 then [] else [44]) ++ [48]
theorem zB_len : ∀ i, (zB (i + 1)).length = 2 * i + 2
  | 0 => rfl
  | i + 1 => by
    rw [zB, List.length_append, List.length_append, zB_len i]
    simp
    omega
theorem zB_at : ∀ (i p : Nat), p < (zB i).length → (zB i)[p]? = some (if p = 0 then 91 else if p % 2 = 1 then 48 else 44)
  | 0, p, h => by
    have : p = 0 := by simp [zB] at h; exact h
    subst this; rfl
  | 1, p, h => by
    have h2 : p < 2 := h
    match p, h2 with
    | 0, _ => rfl
    | 1, _ => rfl
  | i + 2, p, h => by
    have hl := zB_len i
    have hl2 := zB_len (i + 1)
    rw [zB, if_neg (by omega), List.append_assoc]
    rcases Nat.lt_or_ge p (zB (i + 1)).length with h1 | h1
    · rw [List.getElem?_append_left h1]
      exact zB_at (i + 1) p h1
    · rw [List.getElem?_append_right h1, hl]
      rw [hl] at h1
      rw [hl2] at h
      have h3 : p = 2 * i + 2 ∨ p = 2 * i + 3 := by omega
      rcases h3 with rfl | rfl
      · rw [if_neg (by omega), if_neg (by omega), show 2 * i + 2 - (2 * i + 2) = 0 by omega]; rfl
      · rw [if_neg (by omega), if_pos (by omega), show 2 * i + 3 - (2 * i + 2) = 1 by omega]; rfl
/-- A list of zeros. -/
def zL (k : Nat) : List UInt8 := zB k ++ [93]
section
variable {k : Nat}
theorem zL_len (h : 0 < k) : (zL k).length = 2 * k + 1 := by
  obtain ⟨i, rfl⟩ : ∃ i, k = i + 1 := ⟨k - 1, by omega⟩
  unfold zL
  rw [List.length_append, zB_len]; simp; omega
theorem zL_num (h : 0 < k) {j : Nat} (hj : j < k) : (zL k)[2 * j + 1]? = some 48 := by
  obtain ⟨i, rfl⟩ : ∃ i, k = i + 1 := ⟨k - 1, by omega⟩
  have hl := zB_len i
  unfold zL
  rw [List.getElem?_append_left (by omega), zB_at _ _ (by omega), if_neg (by omega), if_pos (by omega)]
theorem zL_sep {j : Nat} (hj : j + 1 < k) : (zL k)[2 * j + 2]? = some 44 := by
  obtain ⟨i, rfl⟩ : ∃ i, k = i + 1 := ⟨k - 1, by omega⟩
  have hl := zB_len i
  unfold zL
  rw [List.getElem?_append_left (by omega), zB_at _ _ (by omega), if_neg (by omega), if_neg (by omega)]
theorem zL_end {j : Nat} (hj : j + 1 = k) : (zL k)[2 * j + 2]? = some 93 := by
  subst hj
  have hl := zB_len j
  unfold zL
  rw [List.getElem?_append_right (by omega), hl, Nat.sub_self]; rfl
theorem zL_val (d : Nat) {j m : Nat} (hj : j < k) (hm : m < 4096) : jValue (zL k) d (2 * j + 1) m = .ok (.mk 3 0 [] [] [], 2 * j + 2, m + 1) := by
  have h0 := zL_num (by omega) hj
  have hn : jNumber (zL k) (2 * j + 1) = .ok (0, 2 * j + 2) := by
    have hp := (List.getElem?_eq_some_iff.1 h0).1
    have h1 : ((zL k).drop (2 * j + 1)).takeWhile jNumC = [48] := by
      rw [List.drop_eq_getElem_cons hp, (List.getElem?_eq_some_iff.1 h0).2, List.takeWhile_cons, if_pos (by decide)]
      have h2 : ∃ x, (zL k)[2 * j + 1 + 1]? = some x ∧ jNumC x = false := by
        by_cases he : j + 1 = k
        · exact ⟨93, zL_end he, by decide⟩
        · exact ⟨44, zL_sep (by omega), by decide⟩
      obtain ⟨x, hx, hx2⟩ := h2
      have hp2 := (List.getElem?_eq_some_iff.1 hx).1
      rw [List.drop_eq_getElem_cons hp2, (List.getElem?_eq_some_iff.1 hx).2, List.takeWhile_cons, if_neg (by rw [hx2]; decide)]
    unfold jNumber
    simp only [h1]
    rfl
  have hw : ∀ val, jValueW (zL k) val (2 * j + 1) m = .ok (.mk 3 0 [] [] [], 2 * j + 2, m + 1) := fun val => by
    unfold jValueW
    rw [h0]
    simp only []
    rw [if_neg (by omega), if_neg (by decide), if_neg (by decide), if_neg (by decide), if_pos (by decide), hn]
  cases d with
  | zero => exact hw _
  | succ d => exact hw _
theorem zL_many (d : Nat) : ∀ (r j f : Nat) (kids : List JV), j + r = k → 0 < r → j < 4096 → r ≤ f → kids.length = j →
    (k < 4096 → ∃ ks, ks.length = k ∧ jManyL (zL k) 5 93 (jValue (zL k) d) f (2 * j + 1) (j + 1) [] kids = .ok (.mk 5 0 [] [] ks, 2 * k + 1, k + 1)) ∧
    (4096 ≤ k → jManyL (zL k) 5 93 (jValue (zL k) d) f (2 * j + 1) (j + 1) [] kids = .error (8191, 8)) := by
  intro r
  induction r with
  | zero => intro j f kids _ h; omega
  | succ r ih =>
    intro j f kids hjr _ hj4 hf hkl
    obtain ⟨f, rfl⟩ : ∃ g, f = g + 1 := ⟨f - 1, by omega⟩
    have hjk : j < k := by omega
    by_cases hlast : j = 4095
    · refine ⟨fun h => by omega, fun _ => ?_⟩
      subst hlast
      rw [jManyL, if_neg (by decide)]
      simp only []
      have hx : jValue (zL k) d (2 * 4095 + 1) (4095 + 1) = .error (8191, 8) := by
        have h0 := zL_num (by omega) hjk
        have hw : ∀ val, jValueW (zL k) val (2 * 4095 + 1) (4095 + 1) = .error (8191, 8) := fun val => by
          unfold jValueW
          rw [h0]
          simp only []
          rw [if_pos trivial]
        cases d with
        | zero => exact hw _
        | succ d => exact hw _
      rw [hx]
    · have hv := zL_val (k := k) d hjk (m := j + 1) (by omega)
      rw [jManyL, if_neg (by decide)]
      simp only [hv]
      by_cases he : j + 1 = k
      · have hx := zL_end he
        refine ⟨fun h4 => ⟨kids ++ [.mk 3 0 [] [] []], by simp; omega, ?_⟩, fun h4 => by omega⟩
        rw [jBlanks_stop hx (by decide)]
        unfold jNext
        rw [hx]
        simp only []
        rw [if_pos trivial, if_neg (by decide), show 2 * j + 2 + 1 = 2 * k + 1 by omega, show j + 1 + 1 = k + 1 by omega]
      · have hx := zL_sep (k := k) (j := j) (by omega)
        have hy := zL_num (k := k) (j := j + 1) (by omega) (by omega)
        have hb : jBlanks (zL k) (2 * j + 2 + 1) = 2 * (j + 1) + 1 := jBlanks_stop (p := 2 * (j + 1) + 1) hy (by decide)
        have hw : jWord (zL k) [44] (2 * j + 2) = .ok (2 * j + 2 + 1) := by
          unfold jWord
          rw [hx]
          simp only []
          rw [if_pos trivial]
          rfl
        have key := ih (j + 1) f (kids ++ [.mk 3 0 [] [] []]) (by omega) (by omega) (by omega) (by omega) (by simp; omega)
        rw [jBlanks_stop hx (by decide)]
        unfold jNext
        rw [hx]
        simp only []
        rw [if_neg (by decide), hw]
        simp only []
        rw [hb, if_neg (by decide)]
        exact key
theorem zL_parse (hk : k < 5000) : (k < 4096 → ∃ v, jParse (zL k) = .ok v ∧ v.kids.length = k) ∧ (4096 ≤ k → jParse (zL k) = .error (8191, 8)) := by
  by_cases h0 : k = 0
  · subst h0
    exact ⟨fun _ => ⟨.mk 5 0 [] [] [], by kernel_rfl, rfl⟩, fun h => by omega⟩
  · have hl := zL_len (k := k) (by omega)
    obtain ⟨i, rfl⟩ : ∃ i, k = i + 1 := ⟨k - 1, by omega⟩
    have hx0 : (zL (i + 1))[0]? = some 91 := by
      unfold zL
      rw [List.getElem?_append_left (by rw [zB_len]; omega), zB_at _ _ (by rw [zB_len]; omega), if_pos rfl]
    have hx1 := zL_num (k := i + 1) (by omega) (j := 0) (by omega)
    have hm : jMany (zL (i + 1)) 5 93 (some (jValue (zL (i + 1)) 15)) 0 1 = jManyL (zL (i + 1)) 5 93 (jValue (zL (i + 1)) 15) (2 * (i + 1) + 1) 1 1 [] [] := by
      unfold jMany
      simp only []
      rw [jBlanks_stop (p := 0 + 1) hx1 (by decide)]
      unfold jNext
      rw [hx1]
      simp only []
      rw [if_neg (by decide), hl]
      rfl
    have hv : jValue (zL (i + 1)) 16 0 0 = jMany (zL (i + 1)) 5 93 (some (jValue (zL (i + 1)) 15)) 0 1 := by
      show jValueW _ _ 0 0 = _
      unfold jValueW
      rw [hx0]
      simp only []
      rw [if_neg (by decide), if_neg (by decide), if_neg (by decide), if_neg (by decide), if_neg (by decide), if_neg (by decide), if_pos trivial]
    have hp : jParse (zL (i + 1)) = match jMany (zL (i + 1)) 5 93 (some (jValue (zL (i + 1)) 15)) 0 1 with
        | .error x => .error x
        | .ok (v, p, _) => if jBlanks (zL (i + 1)) p < (zL (i + 1)).length then .error (jBlanks (zL (i + 1)) p, 10) else .ok v := by
      unfold jParse
      rw [if_neg (by omega), jBlanks_stop hx0 (by decide), hv]
      rfl
    obtain ⟨h1, h2⟩ := zL_many (k := i + 1) 15 (i + 1) 0 (2 * (i + 1) + 1) [] (by omega) (by omega) (by omega) (by omega) rfl
    refine ⟨fun h4 => ?_, fun h4 => ?_⟩
    · obtain ⟨ks, hks, hkk⟩ := h1 h4
      refine ⟨.mk 5 0 [] [] ks, ?_, hks⟩
      have hkk' : jManyL (zL (i + 1)) 5 93 (jValue (zL (i + 1)) 15) (2 * (i + 1) + 1) 1 1 [] [] = .ok (.mk 5 0 [] [] ks, 2 * (i + 1) + 1, i + 1 + 1) := hkk
      rw [hp, hm, hkk']
      simp only []
      rw [jBlanks_end (by rw [hl]; exact Nat.le_refl _), if_neg (by omega)]
    · rw [hp, hm]
      have := h2 h4
      rw [show (2 * 0 + 1 : Nat) = 1 from rfl] at this
      rw [this]
end
end Go.Proofs.YtdekogmegdhjoaaDoor

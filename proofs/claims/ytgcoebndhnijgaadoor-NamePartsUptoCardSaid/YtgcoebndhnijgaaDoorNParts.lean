/-
  Layer 7 in plain words: names of repositories with a stroke between. No program is named here.
-/
import Derived.Test.YtgcoebndhnijgaaDoorNRef
namespace Go.Proofs.YtgcoebndhnijgaaDoor
open Go.RowKit

theorem acc_slash : ∀ (l m : List UInt8) (q : Nat), acc q (l ++ 47 :: m) = (acc q l && acc 0 m)
  | [], m, q => by
    rw [List.nil_append, acc, acc]
    have hst : step q 47 = if q = 1 then some 0 else none := rfl
    rw [hst]
    by_cases hq : q = 1
    · subst hq; rw [if_pos rfl]; simp
    · rw [if_neg hq]
      have : (q == 1) = false := beq_eq_false_iff_ne.2 hq
      rw [this]; rfl
  | c :: l, m, q => by
    rw [List.cons_append, acc, acc]
    cases step q c with
    | none => rfl
    | some q' => exact acc_slash l m q'
theorem repo_join {a b : List UInt8} (ha : repoB a = true) (hb : repoB b = true) (h : a.length + b.length < 128) : repoB (a ++ 47 :: b) = true := by
  unfold repoB at *
  rw [Bool.and_eq_true] at ha hb ⊢
  refine ⟨by rw [acc_slash, ha.1, hb.1]; rfl, ?_⟩
  simp only [decide_eq_true_eq, List.length_append, List.length_cons]
  omega
theorem repo_cut {l : List UInt8} {k : Nat} (h : repoB l = true) (hk : l[k]? = some 47) : repoB (l.take k) = true ∧ repoB (l.drop (k + 1)) = true := by
  obtain ⟨hlt, hx⟩ := List.getElem?_eq_some_iff.1 hk
  have hl : l = l.take k ++ 47 :: l.drop (k + 1) := by
    rw [← hx, ← List.drop_eq_getElem_cons hlt, List.take_append_drop]
  unfold repoB at *
  rw [Bool.and_eq_true] at h
  rw [hl, acc_slash, Bool.and_eq_true] at h
  have hle : l.length ≤ 128 := by
    have := h.2
    rw [← hl] at this
    exact of_decide_eq_true this
  rw [h.1.1, h.1.2]
  refine ⟨?_, ?_⟩
  · rw [Bool.true_and]; exact decide_eq_true (by rw [List.length_take]; omega)
  · rw [Bool.true_and]; exact decide_eq_true (by rw [List.length_drop]; omega)
end Go.Proofs.YtgcoebndhnijgaaDoor

/-
  Layer 7 in plain words: a reference's text. No program is named here.
-/
import Derived.Test.YtgcoebndhnijgaaDoorNRef
namespace Go.Proofs.YtgcoebndhnijgaaDoor
open Go.RowKit

def showR (r : NRef) : Int × List UInt8 :=
  if repoB r.repo.data.toList = false then (70, [])
  else if (!r.tag.data.toList.isEmpty && !tagB r.tag.data.toList) = true then (71, [])
  else (0, r.repo.data.toList ++ ((if r.tag.data.toList.isEmpty = true then [] else 58 :: r.tag.data.toList) ++ (if r.pin = true then 64 :: dgT r.d else [])))
theorem show_no1 {r : NRef} (h : repoB r.repo.data.toList = false) : showR r = (70, []) := by unfold showR; rw [if_pos h]
theorem show_no2 {r : NRef} (h : repoB r.repo.data.toList = true) (h1 : r.tag.data.toList.isEmpty = false) (h2 : tagB r.tag.data.toList = false) : showR r = (71, []) := by
  unfold showR; rw [if_neg (by simp [h]), if_pos (by rw [h1, h2]; rfl)]
theorem show_yes {r : NRef} (h : repoB r.repo.data.toList = true) (h1 : (!r.tag.data.toList.isEmpty && !tagB r.tag.data.toList) = false) : showR r = (0, r.repo.data.toList ++ ((if r.tag.data.toList.isEmpty = true then [] else 58 :: r.tag.data.toList) ++ (if r.pin = true then 64 :: dgT r.d else []))) := by
  unfold showR; rw [if_neg (by simp [h]), if_neg (by rw [h1]; simp)]
theorem repo_size {s : ByteArray} (h : repoB s.data.toList = true) : s.size ≤ 128 := by
  unfold repoB at h
  simp only [Bool.and_eq_true, decide_eq_true_eq] at h
  exact h.2
theorem tag_size {s : ByteArray} (h : tagB s.data.toList = true) : s.size ≤ 128 := by
  unfold tagB at h
  simp only [Bool.and_eq_true, decide_eq_true_eq] at h
  exact h.1.1.2
theorem dgT_len {d : List UInt8} (h : d.length = 32) : (dgT d).length = 71 := by unfold dgT; rw [List.length_append, hexL_len2, h]; rfl
theorem str_app' (a b : ByteArray) : (a ++ b).data.toList = a.data.toList ++ b.data.toList := by simp
theorem str_ext' {a b : ByteArray} (h : a.data.toList = b.data.toList) : a = b := ByteArray.ext (Array.ext' h)
theorem str_nil {s : ByteArray} (h : s.data.toList.isEmpty = true) : s = ⟨#[]⟩ := str_ext' (List.isEmpty_iff.1 h)
end Go.Proofs.YtgcoebndhnijgaaDoor

/-
  Texts that are read back, plainly.
-/
import Derived.Test.YtcnjnkkdidpjiaaRdcP
import Derived.Test.YtcnjnkkdidpjiaaPlain2
namespace Go.Proofs.Ytcnjnkkdidpjiaa
open Go.RowKit

theorem textL_len (l : List UInt8) (h : l.length ≤ 1048576) : (textL l).length ≤ l.length + 10 := by
  unfold textL
  have := cnt_len64 (n := l.length) (by omega)
  rw [List.length_append]; omega
theorem rdt_back (l m : List UInt8) (h : l.length ≤ 1048576) : rdt (textL l ++ m) (l.length : Int) = (l, (textL l).length, 0) := by
  have hb := rdc_back l.length (l ++ m) (by omega)
  unfold rdt textL
  rw [List.append_assoc, hb]
  simp only []
  rw [if_neg (by decide), if_neg (by omega), if_neg (by simp only [List.length_append]; omega)]
  simp
theorem rdt_less (l : List UInt8) (h : l.length ≤ 1048576) : (rdt (textL l) ((l.length : Int) - 1)).2.2 = 8 := by
  have hb := rdc_back l.length l (by omega)
  unfold rdt textL
  rw [hb]
  simp only []
  rw [if_neg (by decide), if_pos (by omega)]
theorem rdt_err (l : List UInt8) (most : Int) : (rdt l most).2.2 ≤ 10 := by
  have h := rdc_err l 0 0
  unfold rdt
  simp only []
  repeat' split
  all_goals simp only []
  all_goals omega
theorem rdt_fst (l : List UInt8) (most : Int) : (rdt l most).1.length ≤ l.length := by
  unfold rdt
  simp only []
  repeat' split
  all_goals simp only [List.length_nil, List.length_take, List.length_drop]
  all_goals omega
theorem rdt_snd (l : List UInt8) (most : Int) : (rdt l most).2.1 ≤ l.length := by
  have h := rdc_used l 0 0
  unfold rdt
  simp only []
  repeat' split
  all_goals simp only []
  all_goals omega

end Go.Proofs.Ytcnjnkkdidpjiaa

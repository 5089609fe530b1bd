/-
  Layer 19: the cells of a request that are set one by one. No program is named here.
-/
import Derived.Test.YtcnjnkkdidpjiaaFrP
import Derived.Test.YtcnjnkkdidpjiaaWSpec
namespace Go.Proofs.Ytcnjnkkdidpjiaa
open Go.RowKit

theorem spl_at {p q r ds : List Value} {off : Nat} (ho : p.length = off) (hq : q.length = ds.length) : spl (p ++ (q ++ r)) off ds = p ++ (ds ++ r) := by
  unfold spl
  rw [List.take_left' ho, List.append_assoc]
  congr 2
  rw [← ho, List.drop_append, List.drop_of_length_le (by omega), List.nil_append, Nat.add_sub_cancel_left, List.drop_left' hq]
section
variable {a b c v : Value} {dg ds : List Value} {e f g h : Value}
theorem rqL_0 : spl (rqL a b c dg e f g h) 0 [v] = rqL v b c dg e f g h := rfl
theorem rqL_1 : spl (rqL a b c dg e f g h) 1 [v] = rqL a v c dg e f g h := rfl
theorem rqL_2 : spl (rqL a b c dg e f g h) 2 [v] = rqL a b v dg e f g h := rfl
theorem rqL_3 (hd : dg.length = 32) (hs : ds.length = 32) : spl (rqL a b c dg e f g h) 3 ds = rqL a b c ds e f g h := spl_at (p := [a, b, c]) (q := dg) rfl (by omega)
theorem rqL_35 (hd : dg.length = 32) : spl (rqL a b c dg e f g h) 35 [v] = rqL a b c dg v f g h := by
  have := spl_at (p := a :: b :: c :: dg) (q := [e]) (r := [f, g, h]) (ds := [v]) (off := 35) (by simp [hd]) rfl
  simpa [rqL] using this
theorem rqL_36 (hd : dg.length = 32) : spl (rqL a b c dg e f g h) 36 [v] = rqL a b c dg e v g h := by
  have := spl_at (p := a :: b :: c :: (dg ++ [e])) (q := [f]) (r := [g, h]) (ds := [v]) (off := 36) (by simp [hd]) rfl
  simpa [rqL] using this
theorem rqL_37 (hd : dg.length = 32) : spl (rqL a b c dg e f g h) 37 [v] = rqL a b c dg e f v h := by
  have := spl_at (p := a :: b :: c :: (dg ++ [e, f])) (q := [g]) (r := [h]) (ds := [v]) (off := 37) (by simp [hd]) rfl
  simpa [rqL] using this
theorem rqL_38 (hd : dg.length = 32) : spl (rqL a b c dg e f g h) 38 [v] = rqL a b c dg e f g v := by
  have := spl_at (p := a :: b :: c :: (dg ++ [e, f, g])) (q := [h]) (r := []) (ds := [v]) (off := 38) (by simp [hd]) rfl
  simpa [rqL] using this
end
end Go.Proofs.Ytcnjnkkdidpjiaa

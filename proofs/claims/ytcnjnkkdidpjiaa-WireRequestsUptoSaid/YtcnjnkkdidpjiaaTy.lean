/-
  Bytes as a type of this program.
-/
import Derived.Test.YtcnjnkkdidpjiaaRows
import Derived.Test.YtcnjnkkdidpjiaaLib
import Derived.Test.YtcnjnkkdidpjiaaSpec
namespace Go.Proofs.Ytcnjnkkdidpjiaa
open Go.RowKit

theorem T_u8 : SlT Try.prog 23 5 1 1 (.int .u8 0) := ⟨Try.underlying23, by kernel_rfl, rfl, by decide⟩
theorem I_u8 : (Try.prog.info? 5).map (·.size) = some 1 := by kernel_rfl
end Go.Proofs.Ytcnjnkkdidpjiaa

/-
  Bytes as a type of this program.
-/
import Derived.Test.YtgcoebndhnijgaaDoorRows
import Derived.Test.YtgcoebndhnijgaaDoorLib
import Derived.Test.YtgcoebndhnijgaaDoorSpec
namespace Go.Proofs.YtgcoebndhnijgaaDoor
open Go.RowKit

theorem T_u8 : SlT Tryd.prog 56 5 1 1 (.int .u8 0) := ⟨Tryd.underlying56, by kernel_rfl, rfl, by decide⟩
theorem I_u8 : (Tryd.prog.info? 5).map (·.size) = some 1 := by kernel_rfl
end Go.Proofs.YtgcoebndhnijgaaDoor

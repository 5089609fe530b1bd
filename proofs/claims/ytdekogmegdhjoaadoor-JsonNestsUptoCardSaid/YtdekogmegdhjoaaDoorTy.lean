/-
  Bytes as a type of this program.
-/
import Derived.Test.YtdekogmegdhjoaaDoorRows
import Derived.Test.YtdekogmegdhjoaaDoorLib
import Derived.Test.YtdekogmegdhjoaaDoorSpec
namespace Go.Proofs.YtdekogmegdhjoaaDoor
open Go.RowKit

theorem T_u8 : SlT Tryd.prog 22 5 1 1 (.int .u8 0) := ⟨Tryd.underlying22, by kernel_rfl, rfl, by decide⟩
theorem I_u8 : (Tryd.prog.info? 5).map (·.size) = some 1 := by kernel_rfl
end Go.Proofs.YtdekogmegdhjoaaDoor

/- A part of the road: the interpreter of plain data and the proof that it is right. -/
import Derived.Test.YtcomdnpeoicpkaaTD
set_option linter.unusedVariables false
set_option linter.unusedSimpArgs false
namespace Go.Pv
open Go Go.Proofs
set_option maxRecDepth 100000
@[simp ↓] theorem f_law10_fixed : cO Try.prog lore (20 : Nat) [] [] = some (Res.val (D.t (T.sc (Value.bool true))), []) := run_at 200 (by kernel_rfl)
end Go.Pv

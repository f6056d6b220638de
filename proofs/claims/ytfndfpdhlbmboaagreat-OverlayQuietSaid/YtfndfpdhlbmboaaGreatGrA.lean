/-
  A closed fact of the program of this seat (gLift). Conditions: none.
-/
import Derived.Test.YtfndfpdhlbmboaaGreatRows
import Derived.ProofKit
import Derived.Test.YtfndfpdhlbmboaaGreatMqz
namespace Go.Proofs.YtfndfpdhlbmboaaGreat
open Go.ChangeShapes Go.WideShapes Go.ChangeAt Go.RowKit
theorem ayN:Tryz.prog.liftsFinal=Rows.overlayNamesRow.lifted:=by kernel_rfl
end Go.Proofs.YtfndfpdhlbmboaaGreat

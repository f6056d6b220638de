/-
  A closed fact of the program of this seat (gMake). Conditions: none.
-/
import Derived.Test.YtfndfpdhlbmboaaGreatRows
import Derived.ProofKit
import Derived.Test.YtfndfpdhlbmboaaGreatMqz
namespace Go.Proofs.YtfndfpdhlbmboaaGreat
open Go.ChangeShapes Go.WideShapes Go.ChangeAt Go.RowKit
theorem ayO:Tryz.prog.make=some Rows.overlayNamesRow.make:=by kernel_rfl
end Go.Proofs.YtfndfpdhlbmboaaGreat

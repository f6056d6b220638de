/-
  A closed fact of the program of this seat (gEnter). Conditions: none.
-/
import Derived.Test.YtfndfpdhlbmboaaGreatRows
import Derived.ProofKit
import Derived.Test.YtfndfpdhlbmboaaGreatMqz
namespace Go.Proofs.YtfndfpdhlbmboaaGreat
open Go.ChangeShapes Go.WideShapes Go.ChangeAt Go.RowKit
theorem ax4:Tryz.prog.mayEnter=true:=by kernel_rfl
end Go.Proofs.YtfndfpdhlbmboaaGreat

/-
  A closed fact of the program of this seat (gLift). Conditions: none.
-/
import Derived.Test.YtagfakjifhdpgaaGreatRows
import Derived.ProofKit
namespace Go.Proofs.YtagfakjifhdpgaaGreat
open Go.ChangeShapes Go.WideShapes Go.ChangeAt Go.RowKit
theorem gLift:Tryz.prog.liftsFinal=Rows.brokerNamesRow.lifted:=by kernel_rfl
end Go.Proofs.YtagfakjifhdpgaaGreat

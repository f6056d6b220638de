/-
  A closed fact of the program of this seat (gMake). Conditions: none.
-/
import Derived.Test.YtagfakjifhdpgaaGreatRows
import Derived.ProofKit
namespace Go.Proofs.YtagfakjifhdpgaaGreat
open Go.ChangeShapes Go.WideShapes Go.ChangeAt Go.RowKit
theorem gMake:Tryz.prog.make=some Rows.brokerNamesRow.make:=by kernel_rfl
end Go.Proofs.YtagfakjifhdpgaaGreat

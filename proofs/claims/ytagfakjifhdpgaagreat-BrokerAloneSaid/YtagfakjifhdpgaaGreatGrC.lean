/-
  A closed fact of the program of this seat (gEnter). Conditions: none.
-/
import Derived.Test.YtagfakjifhdpgaaGreatRows
import Derived.ProofKit
namespace Go.Proofs.YtagfakjifhdpgaaGreat
open Go.ChangeShapes Go.WideShapes Go.ChangeAt Go.RowKit
theorem gEnter:Tryz.prog.mayEnter=true:=by kernel_rfl
end Go.Proofs.YtagfakjifhdpgaaGreat

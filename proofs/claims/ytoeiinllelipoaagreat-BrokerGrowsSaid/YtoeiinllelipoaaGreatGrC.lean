/-
  A closed fact of the program of this seat (gEnter). Conditions: none.
-/
import Derived.Test.YtoeiinllelipoaaGreatRows
import Derived.ProofKit
import Derived.Test.YtoeiinllelipoaaGreatMz
namespace Go.Proofs.YtoeiinllelipoaaGreat
open Go.ChangeShapes Go.WideShapes Go.ChangeAt Go.RowKit
theorem awU:Tryz.prog.mayEnter=true:=by kernel_rfl
end Go.Proofs.YtoeiinllelipoaaGreat

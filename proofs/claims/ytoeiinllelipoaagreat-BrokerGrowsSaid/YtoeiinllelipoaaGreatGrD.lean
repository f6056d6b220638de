/-
  A closed fact of the program of this seat (gMaps). Conditions: none.
-/
import Derived.Test.YtoeiinllelipoaaGreatRows
import Derived.ProofKit
import Derived.Test.YtoeiinllelipoaaGreatMz
namespace Go.Proofs.YtoeiinllelipoaaGreat
open Go.ChangeShapes Go.WideShapes Go.ChangeAt Go.RowKit
theorem axC:mapsRowed Tryz.prog=true:=by kernel_rfl
theorem ajO:laidOutB Tryz.prog=true:=by kernel_rfl
end Go.Proofs.YtoeiinllelipoaaGreat

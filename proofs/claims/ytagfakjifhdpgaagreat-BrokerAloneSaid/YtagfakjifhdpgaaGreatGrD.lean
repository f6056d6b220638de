/-
  A closed fact of the program of this seat (gMaps). Conditions: none.
-/
import Derived.Test.YtagfakjifhdpgaaGreatRows
import Derived.ProofKit
namespace Go.Proofs.YtagfakjifhdpgaaGreat
open Go.ChangeShapes Go.WideShapes Go.ChangeAt Go.RowKit
theorem gMaps:mapsRowed Tryz.prog=true:=by kernel_rfl
theorem gLaid:laidOutB Tryz.prog=true:=by kernel_rfl
end Go.Proofs.YtagfakjifhdpgaaGreat

/-
  A closed fact of the program of this seat (gMaps). Conditions: none.
-/
import Derived.Test.YtfndfpdhlbmboaaGreatRows
import Derived.ProofKit
import Derived.Test.YtfndfpdhlbmboaaGreatMqz
namespace Go.Proofs.YtfndfpdhlbmboaaGreat
open Go.ChangeShapes Go.WideShapes Go.ChangeAt Go.RowKit
theorem ayP:mapsRowed Tryz.prog=true:=by kernel_rfl
theorem ajR:laidOutB Tryz.prog=true:=by kernel_rfl
end Go.Proofs.YtfndfpdhlbmboaaGreat

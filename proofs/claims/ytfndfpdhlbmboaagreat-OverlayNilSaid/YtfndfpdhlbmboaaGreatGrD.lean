/-
  A closed fact of the program of this seat (gMaps). Conditions: none.
-/
import Derived.Test.YtfndfpdhlbmboaaGreatRows
import Derived.ProofKit
import Derived.Test.YtfndfpdhlbmboaaGreatMz
namespace Go.Proofs.YtfndfpdhlbmboaaGreat
open Go.ChangeShapes Go.WideShapes Go.ChangeAt Go.RowKit
theorem ayw:mapsRowed Tryz.prog=true:=by kernel_rfl
theorem XE:laidOutB Tryz.prog=true:=by kernel_rfl
end Go.Proofs.YtfndfpdhlbmboaaGreat

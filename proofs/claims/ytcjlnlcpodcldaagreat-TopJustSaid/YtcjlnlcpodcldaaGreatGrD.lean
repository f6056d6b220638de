/-
  A closed fact of the program of this seat (gMaps). Conditions: none.
-/
import Derived.Test.YtcjlnlcpodcldaaGreatRows
import Derived.Test.YtcjlnlcpodcldaaGreatMsz
namespace Go.Proofs.YtcjlnlcpodcldaaGreat
open Go.ChangeShapes Go.WideShapes Go.ChangeAt Go.RowKit
theorem aDt:mapsRowed Tryz.prog=true:=by kernel_rfl
theorem anI:laidOutB Tryz.prog=true:=by kernel_rfl
end Go.Proofs.YtcjlnlcpodcldaaGreat

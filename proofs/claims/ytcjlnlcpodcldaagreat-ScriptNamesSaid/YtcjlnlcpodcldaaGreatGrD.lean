/-
  A closed fact of the program of this seat (gMaps). Conditions: none.
-/
import Derived.Test.YtcjlnlcpodcldaaGreatRows
import Derived.Test.YtcjlnlcpodcldaaGreatMsz
namespace Go.Proofs.YtcjlnlcpodcldaaGreat
open Go.ChangeShapes Go.WideShapes Go.ChangeAt Go.RowKit
theorem aC1:mapsRowed Tryz.prog=true:=by kernel_rfl
theorem Ty:laidOutB Tryz.prog=true:=by kernel_rfl
end Go.Proofs.YtcjlnlcpodcldaaGreat

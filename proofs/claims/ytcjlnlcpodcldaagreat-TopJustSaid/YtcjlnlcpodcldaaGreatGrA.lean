/-
  A closed fact of the program of this seat (gLift). Conditions: none.
-/
import Derived.Test.YtcjlnlcpodcldaaGreatRows
import Derived.Test.YtcjlnlcpodcldaaGreatMsz
namespace Go.Proofs.YtcjlnlcpodcldaaGreat
open Go.ChangeShapes Go.WideShapes Go.ChangeAt Go.RowKit
theorem aDr:Tryz.prog.liftsFinal=Rows.scriptNamesRow.lifted:=by kernel_rfl
end Go.Proofs.YtcjlnlcpodcldaaGreat

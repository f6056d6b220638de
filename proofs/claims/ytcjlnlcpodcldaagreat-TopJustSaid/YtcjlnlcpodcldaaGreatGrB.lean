/-
  A closed fact of the program of this seat (gMake). Conditions: none.
-/
import Derived.Test.YtcjlnlcpodcldaaGreatRows
import Derived.Test.YtcjlnlcpodcldaaGreatMsz
namespace Go.Proofs.YtcjlnlcpodcldaaGreat
open Go.ChangeShapes Go.WideShapes Go.ChangeAt Go.RowKit
theorem aDs:Tryz.prog.make=some Rows.scriptNamesRow.make:=by kernel_rfl
end Go.Proofs.YtcjlnlcpodcldaaGreat

/-
  A closed fact of the program of this seat (gEnter). Conditions: none.
-/
import Derived.Test.YtcjlnlcpodcldaaGreatRows
import Derived.Test.YtcjlnlcpodcldaaGreatMsz
namespace Go.Proofs.YtcjlnlcpodcldaaGreat
open Go.ChangeShapes Go.WideShapes Go.ChangeAt Go.RowKit
theorem aCE:Tryz.prog.mayEnter=true:=by kernel_rfl
end Go.Proofs.YtcjlnlcpodcldaaGreat

/-
  What is known of arguments that are lists of ints. Conditions: none.
-/
import Derived.Test.YtagfakjifhdpgaaGreatMa33
import Derived.Test.YtagfakjifhdpgaaGreatMd02
set_option maxRecDepth 100000
set_option maxHeartbeats 16000000
set_option linter.unusedVariables false
set_option linter.unusedSimpArgs false
namespace Go.Proofs.YtagfakjifhdpgaaGreat
open Go Go.RowKit
section
open Go Go.RowKit Go.ChangeShapes Go.WideShapes Go.ChangeAt
section
variable {H:Type} {enc:TypeId×Value->H} {w:World} {base:Nat} {r:Reach} {b0:Nat} {spare:Nat->Bool} {held:Bool} {v:Value} {d:DataW H} {p:List MemPlace}
theorem repInts_of (hv:Value.okWide Tryz.prog w r b0 31 v) (h:DataW.Trod enc Tryz.prog w base spare held 31 v d p):repInts w v:=by
 obtain⟨A,n,c,css,rfl,h1,h2,h3,h4,h5⟩:=reads_of_slice Tryz.underlying31 1 (by kernel_rfl) (fun cs=>∃ n:Int,cs=[.int .i64 n]/\i64ok n) (fun _ _ _ _ ht=>i64_cells ht) hv h
 obtain⟨l,h6,h7,h8⟩:=list_of_cells (fun n:Int=>[Value.int .i64 n]) i64ok css fun cs hcs=>(h4 cs hcs).2
 have h9:=h5 (by decide)
 subst h1
 rw[<- h6] at h9 h2 ⊢
 exact⟨l,⟨A,c,rfl,⟨l.map intc,each_ints _ _,by rw[h7] at h9;exact h9⟩,h2⟩,h8⟩
end
end

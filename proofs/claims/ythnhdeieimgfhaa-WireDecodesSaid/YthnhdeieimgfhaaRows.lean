/-
  No cell of these rows narrows 'for every input' (looked for: loops, veiled, ifaces, maps, wideKeys, modest, calm, conditions, laid).
  DERIVED. THE GIVEN ROWS OF THIS SEAT. 10 by the template 'for every input the law returns true; each argument reads behind the call as it read before'; 0 by the template 'total and deterministic' (their statements: YthnhdeieimgfhaaTotals.lean).
  GIVEN WITH THE SEED: the statements are not yours to turn. If you find one false, say at which input.
  Laid BY PROGRAM, IN A SANDBOX (cutbox-rows.mjs): the forced cells as the released guide's own fill.sh prints them over the translation 360a2f756e7ed3bc… (all of the seat's roots in one cut). By AI agents, Wed Nov 11 2026. No macro, syntax, notation, axiom, sorry.
-/
import Derived.Test.YthnhdeieimgfhaaChecked
import GoSem.Claim
import GoSem.ClaimJoined
import GoSem.ClaimMapViews
import Derived.JoinedTies
import Derived.KernelRfl
namespace Go.Proofs.Ythnhdeieimgfhaa
/- THE CELL 'sum', in the pinned program and in every row, IS THE sha256 OF THE DUMP (.gsa) THAT YthnhdeieimgfhaaProg.lean LOADS. Nothing in Lean hashes anything: it is a label: what it is worth is what the hold of that sum in a sandbox is worth. -/
noncomputable def Try.pinned : Pinned := { name := "ythnhdeieimgfhaa", sum := "360a2f756e7ed3bc3d19b36a3c9337676031394ef40c8e49cb44702e15e0c17e", checked := Try.checked }
namespace Rows
def none {H : Type} : Left H := { results := [], args := [] }

/-- 'postilionlaw13.WireNames': WHATEVER THE INPUT: true; the input reads as it did. -/
def wireNamesSpec : ChangeSpec := { name := "wireNames", fn := fun _ => fun
  | [] => { results := [.lit (.bool true)], args := [] }
  | _ => none }
def wireNamesRow : OpenClaim := { program := "ythnhdeieimgfhaa", sum := "360a2f756e7ed3bc3d19b36a3c9337676031394ef40c8e49cb44702e15e0c17e", func := "postilion/postilionlaw13.WireNames", spec := "wireNames", unfollowed := true, recurses := true, apart := false }
def WireNamesSaid : Prop := wireNamesRow.holds Try.pinned (OpenSpec.ofChange wireNamesSpec)

/-- ITS FALSE NEIGHBOUR: 'it returns false'. Refute it at one input. -/
def wireNamesWrong : ChangeSpec := { name := "wireNames", fn := fun _ => fun
  | [] => { results := [.lit (.bool false)], args := [] }
  | _ => none }
def WireNamesWrongFalsely : Prop := wireNamesRow.holds Try.pinned (OpenSpec.ofChange wireNamesWrong)

/-- 'postilionlaw13.WireTells': WHATEVER THE INPUT: true; the input reads as it did. -/
def wireTellsSpec : ChangeSpec := { name := "wireTells", fn := fun _ => fun
  | [d] => { results := [.lit (.bool true)], args := [d] }
  | _ => none }
def wireTellsRow : OpenClaim := { program := "ythnhdeieimgfhaa", sum := "360a2f756e7ed3bc3d19b36a3c9337676031394ef40c8e49cb44702e15e0c17e", func := "postilion/postilionlaw13.WireTells", spec := "wireTells", unfollowed := true, recurses := true, apart := false }
def WireTellsSaid : Prop := wireTellsRow.holds Try.pinned (OpenSpec.ofChange wireTellsSpec)

/-- ITS FALSE NEIGHBOUR: 'it returns false'. Refute it at one input. -/
def wireTellsWrong : ChangeSpec := { name := "wireTells", fn := fun _ => fun
  | [d] => { results := [.lit (.bool false)], args := [d] }
  | _ => none }
def WireTellsWrongFalsely : Prop := wireTellsRow.holds Try.pinned (OpenSpec.ofChange wireTellsWrong)

/-- 'postilionlaw13.WireDecodes': WHATEVER THE INPUT: true; the input reads as it did. -/
def wireDecodesSpec : ChangeSpec := { name := "wireDecodes", fn := fun _ => fun
  | [d] => { results := [.lit (.bool true)], args := [d] }
  | _ => none }
def wireDecodesRow : OpenClaim := { program := "ythnhdeieimgfhaa", sum := "360a2f756e7ed3bc3d19b36a3c9337676031394ef40c8e49cb44702e15e0c17e", func := "postilion/postilionlaw13.WireDecodes", spec := "wireDecodes", unfollowed := true, recurses := true, apart := false }
def WireDecodesSaid : Prop := wireDecodesRow.holds Try.pinned (OpenSpec.ofChange wireDecodesSpec)

/-- ITS FALSE NEIGHBOUR: 'it returns false'. Refute it at one input. -/
def wireDecodesWrong : ChangeSpec := { name := "wireDecodes", fn := fun _ => fun
  | [d] => { results := [.lit (.bool false)], args := [d] }
  | _ => none }
def WireDecodesWrongFalsely : Prop := wireDecodesRow.holds Try.pinned (OpenSpec.ofChange wireDecodesWrong)

/-- 'postilionlaw13.WireBack': WHATEVER THE INPUT: true; the input reads as it did. -/
def wireBackSpec : ChangeSpec := { name := "wireBack", fn := fun _ => fun
  | [d1, d2, d3] => { results := [.lit (.bool true)], args := [d1, d2, d3] }
  | _ => none }
def wireBackRow : OpenClaim := { program := "ythnhdeieimgfhaa", sum := "360a2f756e7ed3bc3d19b36a3c9337676031394ef40c8e49cb44702e15e0c17e", func := "postilion/postilionlaw13.WireBack", spec := "wireBack", unfollowed := true, recurses := true, apart := false }
def WireBackSaid : Prop := wireBackRow.holds Try.pinned (OpenSpec.ofChange wireBackSpec)

/-- ITS FALSE NEIGHBOUR: 'it returns false'. Refute it at one input. -/
def wireBackWrong : ChangeSpec := { name := "wireBack", fn := fun _ => fun
  | [d1, d2, d3] => { results := [.lit (.bool false)], args := [d1, d2, d3] }
  | _ => none }
def WireBackWrongFalsely : Prop := wireBackRow.holds Try.pinned (OpenSpec.ofChange wireBackWrong)

/-- 'postilionlaw13.WireApart': WHATEVER THE INPUT: true; the input reads as it did. -/
def wireApartSpec : ChangeSpec := { name := "wireApart", fn := fun _ => fun
  | [d1, d2] => { results := [.lit (.bool true)], args := [d1, d2] }
  | _ => none }
def wireApartRow : OpenClaim := { program := "ythnhdeieimgfhaa", sum := "360a2f756e7ed3bc3d19b36a3c9337676031394ef40c8e49cb44702e15e0c17e", func := "postilion/postilionlaw13.WireApart", spec := "wireApart", unfollowed := true, recurses := true, apart := false }
def WireApartSaid : Prop := wireApartRow.holds Try.pinned (OpenSpec.ofChange wireApartSpec)

/-- ITS FALSE NEIGHBOUR: 'it returns false'. Refute it at one input. -/
def wireApartWrong : ChangeSpec := { name := "wireApart", fn := fun _ => fun
  | [d1, d2] => { results := [.lit (.bool false)], args := [d1, d2] }
  | _ => none }
def WireApartWrongFalsely : Prop := wireApartRow.holds Try.pinned (OpenSpec.ofChange wireApartWrong)

/-- 'postilionlaw13.WireLess': WHATEVER THE INPUT: true; the input reads as it did. -/
def wireLessSpec : ChangeSpec := { name := "wireLess", fn := fun _ => fun
  | [d1, d2] => { results := [.lit (.bool true)], args := [d1, d2] }
  | _ => none }
def wireLessRow : OpenClaim := { program := "ythnhdeieimgfhaa", sum := "360a2f756e7ed3bc3d19b36a3c9337676031394ef40c8e49cb44702e15e0c17e", func := "postilion/postilionlaw13.WireLess", spec := "wireLess", unfollowed := true, recurses := true, apart := false }
def WireLessSaid : Prop := wireLessRow.holds Try.pinned (OpenSpec.ofChange wireLessSpec)

/-- ITS FALSE NEIGHBOUR: 'it returns false'. Refute it at one input. -/
def wireLessWrong : ChangeSpec := { name := "wireLess", fn := fun _ => fun
  | [d1, d2] => { results := [.lit (.bool false)], args := [d1, d2] }
  | _ => none }
def WireLessWrongFalsely : Prop := wireLessRow.holds Try.pinned (OpenSpec.ofChange wireLessWrong)

/-- 'postilionlaw16.FoldNames': WHATEVER THE INPUT: true; the input reads as it did. -/
def foldNamesSpec : ChangeSpec := { name := "foldNames", fn := fun _ => fun
  | [] => { results := [.lit (.bool true)], args := [] }
  | _ => none }
def foldNamesRow : OpenClaim := { program := "ythnhdeieimgfhaa", sum := "360a2f756e7ed3bc3d19b36a3c9337676031394ef40c8e49cb44702e15e0c17e", func := "postilion/postilionlaw16.FoldNames", spec := "foldNames", unfollowed := true, recurses := true, apart := false }
def FoldNamesSaid : Prop := foldNamesRow.holds Try.pinned (OpenSpec.ofChange foldNamesSpec)

/-- ITS FALSE NEIGHBOUR: 'it returns false'. Refute it at one input. -/
def foldNamesWrong : ChangeSpec := { name := "foldNames", fn := fun _ => fun
  | [] => { results := [.lit (.bool false)], args := [] }
  | _ => none }
def FoldNamesWrongFalsely : Prop := foldNamesRow.holds Try.pinned (OpenSpec.ofChange foldNamesWrong)

/-- 'postilionlaw16.FoldBack': WHATEVER THE INPUT: true; the input reads as it did. -/
def foldBackSpec : ChangeSpec := { name := "foldBack", fn := fun _ => fun
  | [d] => { results := [.lit (.bool true)], args := [d] }
  | _ => none }
def foldBackRow : OpenClaim := { program := "ythnhdeieimgfhaa", sum := "360a2f756e7ed3bc3d19b36a3c9337676031394ef40c8e49cb44702e15e0c17e", func := "postilion/postilionlaw16.FoldBack", spec := "foldBack", unfollowed := true, recurses := true, apart := false }
def FoldBackSaid : Prop := foldBackRow.holds Try.pinned (OpenSpec.ofChange foldBackSpec)

/-- ITS FALSE NEIGHBOUR: 'it returns false'. Refute it at one input. -/
def foldBackWrong : ChangeSpec := { name := "foldBack", fn := fun _ => fun
  | [d] => { results := [.lit (.bool false)], args := [d] }
  | _ => none }
def FoldBackWrongFalsely : Prop := foldBackRow.holds Try.pinned (OpenSpec.ofChange foldBackWrong)

/-- 'postilionlaw16.FoldOnce': WHATEVER THE INPUT: true; the input reads as it did. -/
def foldOnceSpec : ChangeSpec := { name := "foldOnce", fn := fun _ => fun
  | [d1, d2] => { results := [.lit (.bool true)], args := [d1, d2] }
  | _ => none }
def foldOnceRow : OpenClaim := { program := "ythnhdeieimgfhaa", sum := "360a2f756e7ed3bc3d19b36a3c9337676031394ef40c8e49cb44702e15e0c17e", func := "postilion/postilionlaw16.FoldOnce", spec := "foldOnce", unfollowed := true, recurses := true, apart := false }
def FoldOnceSaid : Prop := foldOnceRow.holds Try.pinned (OpenSpec.ofChange foldOnceSpec)

/-- ITS FALSE NEIGHBOUR: 'it returns false'. Refute it at one input. -/
def foldOnceWrong : ChangeSpec := { name := "foldOnce", fn := fun _ => fun
  | [d1, d2] => { results := [.lit (.bool false)], args := [d1, d2] }
  | _ => none }
def FoldOnceWrongFalsely : Prop := foldOnceRow.holds Try.pinned (OpenSpec.ofChange foldOnceWrong)

/-- 'postilionlaw16.FoldBegins': WHATEVER THE INPUT: true; the input reads as it did. -/
def foldBeginsSpec : ChangeSpec := { name := "foldBegins", fn := fun _ => fun
  | [d1, d2] => { results := [.lit (.bool true)], args := [d1, d2] }
  | _ => none }
def foldBeginsRow : OpenClaim := { program := "ythnhdeieimgfhaa", sum := "360a2f756e7ed3bc3d19b36a3c9337676031394ef40c8e49cb44702e15e0c17e", func := "postilion/postilionlaw16.FoldBegins", spec := "foldBegins", unfollowed := true, recurses := true, apart := false }
def FoldBeginsSaid : Prop := foldBeginsRow.holds Try.pinned (OpenSpec.ofChange foldBeginsSpec)

/-- ITS FALSE NEIGHBOUR: 'it returns false'. Refute it at one input. -/
def foldBeginsWrong : ChangeSpec := { name := "foldBegins", fn := fun _ => fun
  | [d1, d2] => { results := [.lit (.bool false)], args := [d1, d2] }
  | _ => none }
def FoldBeginsWrongFalsely : Prop := foldBeginsRow.holds Try.pinned (OpenSpec.ofChange foldBeginsWrong)

/- THE SECOND FORM. 'bulk': how many values and letters a reading holds, each counted each time it is reached (what is shared counts as often as it is met; a slice's spare places count too). A statement '..UptoSaid' is the law's where the arguments, and the package variables that the reading takes, are together of bulk at most 1048576: NARROWER than '..Said'. Prove '..Said' where nothing that the law and all that it calls make is longer than what came in: it says more and counts as full. Else prove '..UptoSaid'. A law counts once. -/
mutual
def uptoBulk {H : Type} : DataW H → Nat
  | .lit (.string bytes) => bytes.length + 1
  | .lit _ => 1
  | .nil => 1
  | .ptr d => uptoBulk d + 1
  | .slice elems spare => uptoBulkAll elems + uptoBulkAll spare + 1
  | .agg parts => uptoBulkAll parts + 1
  | .iface _ d => uptoBulk d + 1
  | .map entries => uptoBulkEntries entries + 1
  | .held _ => 1
def uptoBulkAll {H : Type} : List (DataW H) → Nat
  | [] => 0
  | d :: r => uptoBulk d + uptoBulkAll r
def uptoBulkEntries {H : Type} : List (Lit × DataW H) → Nat
  | [] => 0
  | x :: r => uptoBulkEntry x + uptoBulkEntries r
def uptoBulkEntry {H : Type} : Lit × DataW H → Nat
  | (.string bytes, d) => bytes.length + uptoBulk d + 1
  | (_, d) => uptoBulk d + 1
 end
def uptoSmall : (H : Type) → List (DataW H) → Bool := fun _ ds => decide (uptoBulkAll ds ≤ 1048576)
def OpenSpec.upto (s : _root_.Go.ChangeSpec) : _root_.Go.OpenSpec := { _root_.Go.OpenSpec.ofChange s with cond := some uptoSmall }

/-- 'postilionlaw13.WireNames', WHERE WHAT IT READS IS OF BULK AT MOST 1048576: true; the input reads as it did. -/
def wireNamesUptoRow : OpenClaim := { program := "ythnhdeieimgfhaa", sum := "360a2f756e7ed3bc3d19b36a3c9337676031394ef40c8e49cb44702e15e0c17e", func := "postilion/postilionlaw13.WireNames", spec := "wireNames", unfollowed := true, recurses := true, apart := false, narrowed := true }
def WireNamesUptoSaid : Prop := wireNamesUptoRow.holds Try.pinned (OpenSpec.upto wireNamesSpec)

/-- 'postilionlaw13.WireTells', WHERE WHAT IT READS IS OF BULK AT MOST 1048576: true; the input reads as it did. -/
def wireTellsUptoRow : OpenClaim := { program := "ythnhdeieimgfhaa", sum := "360a2f756e7ed3bc3d19b36a3c9337676031394ef40c8e49cb44702e15e0c17e", func := "postilion/postilionlaw13.WireTells", spec := "wireTells", unfollowed := true, recurses := true, apart := false, narrowed := true }
def WireTellsUptoSaid : Prop := wireTellsUptoRow.holds Try.pinned (OpenSpec.upto wireTellsSpec)

/-- 'postilionlaw13.WireDecodes', WHERE WHAT IT READS IS OF BULK AT MOST 1048576: true; the input reads as it did. -/
def wireDecodesUptoRow : OpenClaim := { program := "ythnhdeieimgfhaa", sum := "360a2f756e7ed3bc3d19b36a3c9337676031394ef40c8e49cb44702e15e0c17e", func := "postilion/postilionlaw13.WireDecodes", spec := "wireDecodes", unfollowed := true, recurses := true, apart := false, narrowed := true }
def WireDecodesUptoSaid : Prop := wireDecodesUptoRow.holds Try.pinned (OpenSpec.upto wireDecodesSpec)

/-- 'postilionlaw13.WireBack', WHERE WHAT IT READS IS OF BULK AT MOST 1048576: true; the input reads as it did. -/
def wireBackUptoRow : OpenClaim := { program := "ythnhdeieimgfhaa", sum := "360a2f756e7ed3bc3d19b36a3c9337676031394ef40c8e49cb44702e15e0c17e", func := "postilion/postilionlaw13.WireBack", spec := "wireBack", unfollowed := true, recurses := true, apart := false, narrowed := true }
def WireBackUptoSaid : Prop := wireBackUptoRow.holds Try.pinned (OpenSpec.upto wireBackSpec)

/-- 'postilionlaw13.WireApart', WHERE WHAT IT READS IS OF BULK AT MOST 1048576: true; the input reads as it did. -/
def wireApartUptoRow : OpenClaim := { program := "ythnhdeieimgfhaa", sum := "360a2f756e7ed3bc3d19b36a3c9337676031394ef40c8e49cb44702e15e0c17e", func := "postilion/postilionlaw13.WireApart", spec := "wireApart", unfollowed := true, recurses := true, apart := false, narrowed := true }
def WireApartUptoSaid : Prop := wireApartUptoRow.holds Try.pinned (OpenSpec.upto wireApartSpec)

/-- 'postilionlaw13.WireLess', WHERE WHAT IT READS IS OF BULK AT MOST 1048576: true; the input reads as it did. -/
def wireLessUptoRow : OpenClaim := { program := "ythnhdeieimgfhaa", sum := "360a2f756e7ed3bc3d19b36a3c9337676031394ef40c8e49cb44702e15e0c17e", func := "postilion/postilionlaw13.WireLess", spec := "wireLess", unfollowed := true, recurses := true, apart := false, narrowed := true }
def WireLessUptoSaid : Prop := wireLessUptoRow.holds Try.pinned (OpenSpec.upto wireLessSpec)

/-- 'postilionlaw16.FoldNames', WHERE WHAT IT READS IS OF BULK AT MOST 1048576: true; the input reads as it did. -/
def foldNamesUptoRow : OpenClaim := { program := "ythnhdeieimgfhaa", sum := "360a2f756e7ed3bc3d19b36a3c9337676031394ef40c8e49cb44702e15e0c17e", func := "postilion/postilionlaw16.FoldNames", spec := "foldNames", unfollowed := true, recurses := true, apart := false, narrowed := true }
def FoldNamesUptoSaid : Prop := foldNamesUptoRow.holds Try.pinned (OpenSpec.upto foldNamesSpec)

/-- 'postilionlaw16.FoldBack', WHERE WHAT IT READS IS OF BULK AT MOST 1048576: true; the input reads as it did. -/
def foldBackUptoRow : OpenClaim := { program := "ythnhdeieimgfhaa", sum := "360a2f756e7ed3bc3d19b36a3c9337676031394ef40c8e49cb44702e15e0c17e", func := "postilion/postilionlaw16.FoldBack", spec := "foldBack", unfollowed := true, recurses := true, apart := false, narrowed := true }
def FoldBackUptoSaid : Prop := foldBackUptoRow.holds Try.pinned (OpenSpec.upto foldBackSpec)

/-- 'postilionlaw16.FoldOnce', WHERE WHAT IT READS IS OF BULK AT MOST 1048576: true; the input reads as it did. -/
def foldOnceUptoRow : OpenClaim := { program := "ythnhdeieimgfhaa", sum := "360a2f756e7ed3bc3d19b36a3c9337676031394ef40c8e49cb44702e15e0c17e", func := "postilion/postilionlaw16.FoldOnce", spec := "foldOnce", unfollowed := true, recurses := true, apart := false, narrowed := true }
def FoldOnceUptoSaid : Prop := foldOnceUptoRow.holds Try.pinned (OpenSpec.upto foldOnceSpec)

/-- 'postilionlaw16.FoldBegins', WHERE WHAT IT READS IS OF BULK AT MOST 1048576: true; the input reads as it did. -/
def foldBeginsUptoRow : OpenClaim := { program := "ythnhdeieimgfhaa", sum := "360a2f756e7ed3bc3d19b36a3c9337676031394ef40c8e49cb44702e15e0c17e", func := "postilion/postilionlaw16.FoldBegins", spec := "foldBegins", unfollowed := true, recurses := true, apart := false, narrowed := true }
def FoldBeginsUptoSaid : Prop := foldBeginsUptoRow.holds Try.pinned (OpenSpec.upto foldBeginsSpec)

end Rows
end Go.Proofs.Ythnhdeieimgfhaa

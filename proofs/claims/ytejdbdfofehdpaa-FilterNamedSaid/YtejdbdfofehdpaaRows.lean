/-
  No cell of these rows narrows 'for every input' (looked for: loops, veiled, ifaces, maps, wideKeys, modest, calm, conditions, laid).
  DERIVED. THE GIVEN ROWS OF THIS SEAT. 7 by the template 'for every input the law returns true; each argument reads behind the call as it read before'; 0 by the template 'total and deterministic' (their statements: YtejdbdfofehdpaaTotals.lean).
  GIVEN WITH THE SEED: the statements are not yours to turn. If you find one false, say at which input.
  Laid BY PROGRAM, IN A SANDBOX (cutbox-rows.mjs): the forced cells as the released guide's own fill.sh prints them over the translation ecb03e97425fa254… (all of the seat's roots in one cut). By AI agents, Wed Nov 11 2026. No macro, syntax, notation, axiom, sorry.
-/
import Derived.Test.YtejdbdfofehdpaaChecked
import GoSem.Claim
import GoSem.ClaimJoined
import GoSem.ClaimMapViews
import Derived.JoinedTies
import Derived.KernelRfl
namespace Go.Proofs.Ytejdbdfofehdpaa
/- THE CELL 'sum', in the pinned program and in every row, IS THE sha256 OF THE DUMP (.gsa) THAT YtejdbdfofehdpaaProg.lean LOADS. Nothing in Lean hashes anything: it is a label: what it is worth is what the hold of that sum in a sandbox is worth. -/
noncomputable def Try.pinned : Pinned := { name := "ytejdbdfofehdpaa", sum := "ecb03e97425fa2548b8b79e607101e7bf5dc46ad847aab996fb897e0ef1f3b11", checked := Try.checked }
namespace Rows
def none {H : Type} : Left H := { results := [], args := [] }

/-- 'postilionlaw05.FilterNames': WHATEVER THE INPUT: true; the input reads as it did. -/
def filterNamesSpec : ChangeSpec := { name := "filterNames", fn := fun _ => fun
  | [] => { results := [.lit (.bool true)], args := [] }
  | _ => none }
def filterNamesRow : OpenClaim := { program := "ytejdbdfofehdpaa", sum := "ecb03e97425fa2548b8b79e607101e7bf5dc46ad847aab996fb897e0ef1f3b11", func := "postilion/postilionlaw05.FilterNames", spec := "filterNames", unfollowed := true, recurses := true, apart := false }
def FilterNamesSaid : Prop := filterNamesRow.holds Try.pinned (OpenSpec.ofChange filterNamesSpec)

/-- ITS FALSE NEIGHBOUR: 'it returns false'. Refute it at one input. -/
def filterNamesWrong : ChangeSpec := { name := "filterNames", fn := fun _ => fun
  | [] => { results := [.lit (.bool false)], args := [] }
  | _ => none }
def FilterNamesWrongFalsely : Prop := filterNamesRow.holds Try.pinned (OpenSpec.ofChange filterNamesWrong)

/-- 'postilionlaw05.FilterTells': WHATEVER THE INPUT: true; the input reads as it did. -/
def filterTellsSpec : ChangeSpec := { name := "filterTells", fn := fun _ => fun
  | [d1, d2, d3, d4] => { results := [.lit (.bool true)], args := [d1, d2, d3, d4] }
  | _ => none }
def filterTellsRow : OpenClaim := { program := "ytejdbdfofehdpaa", sum := "ecb03e97425fa2548b8b79e607101e7bf5dc46ad847aab996fb897e0ef1f3b11", func := "postilion/postilionlaw05.FilterTells", spec := "filterTells", unfollowed := true, recurses := true, apart := false }
def FilterTellsSaid : Prop := filterTellsRow.holds Try.pinned (OpenSpec.ofChange filterTellsSpec)

/-- ITS FALSE NEIGHBOUR: 'it returns false'. Refute it at one input. -/
def filterTellsWrong : ChangeSpec := { name := "filterTells", fn := fun _ => fun
  | [d1, d2, d3, d4] => { results := [.lit (.bool false)], args := [d1, d2, d3, d4] }
  | _ => none }
def FilterTellsWrongFalsely : Prop := filterTellsRow.holds Try.pinned (OpenSpec.ofChange filterTellsWrong)

/-- 'postilionlaw05.FilterDecodes': WHATEVER THE INPUT: true; the input reads as it did. -/
def filterDecodesSpec : ChangeSpec := { name := "filterDecodes", fn := fun _ => fun
  | [d] => { results := [.lit (.bool true)], args := [d] }
  | _ => none }
def filterDecodesRow : OpenClaim := { program := "ytejdbdfofehdpaa", sum := "ecb03e97425fa2548b8b79e607101e7bf5dc46ad847aab996fb897e0ef1f3b11", func := "postilion/postilionlaw05.FilterDecodes", spec := "filterDecodes", unfollowed := true, recurses := true, apart := false }
def FilterDecodesSaid : Prop := filterDecodesRow.holds Try.pinned (OpenSpec.ofChange filterDecodesSpec)

/-- ITS FALSE NEIGHBOUR: 'it returns false'. Refute it at one input. -/
def filterDecodesWrong : ChangeSpec := { name := "filterDecodes", fn := fun _ => fun
  | [d] => { results := [.lit (.bool false)], args := [d] }
  | _ => none }
def FilterDecodesWrongFalsely : Prop := filterDecodesRow.holds Try.pinned (OpenSpec.ofChange filterDecodesWrong)

/-- 'postilionlaw05.FilterBack': WHATEVER THE INPUT: true; the input reads as it did. -/
def filterBackSpec : ChangeSpec := { name := "filterBack", fn := fun _ => fun
  | [d1, d2] => { results := [.lit (.bool true)], args := [d1, d2] }
  | _ => none }
def filterBackRow : OpenClaim := { program := "ytejdbdfofehdpaa", sum := "ecb03e97425fa2548b8b79e607101e7bf5dc46ad847aab996fb897e0ef1f3b11", func := "postilion/postilionlaw05.FilterBack", spec := "filterBack", unfollowed := true, recurses := true, apart := false }
def FilterBackSaid : Prop := filterBackRow.holds Try.pinned (OpenSpec.ofChange filterBackSpec)

/-- ITS FALSE NEIGHBOUR: 'it returns false'. Refute it at one input. -/
def filterBackWrong : ChangeSpec := { name := "filterBack", fn := fun _ => fun
  | [d1, d2] => { results := [.lit (.bool false)], args := [d1, d2] }
  | _ => none }
def FilterBackWrongFalsely : Prop := filterBackRow.holds Try.pinned (OpenSpec.ofChange filterBackWrong)

/-- 'postilionlaw05.FilterMore': WHATEVER THE INPUT: true; the input reads as it did. -/
def filterMoreSpec : ChangeSpec := { name := "filterMore", fn := fun _ => fun
  | [d1, d2, d3, d4] => { results := [.lit (.bool true)], args := [d1, d2, d3, d4] }
  | _ => none }
def filterMoreRow : OpenClaim := { program := "ytejdbdfofehdpaa", sum := "ecb03e97425fa2548b8b79e607101e7bf5dc46ad847aab996fb897e0ef1f3b11", func := "postilion/postilionlaw05.FilterMore", spec := "filterMore", unfollowed := true, recurses := true, apart := false }
def FilterMoreSaid : Prop := filterMoreRow.holds Try.pinned (OpenSpec.ofChange filterMoreSpec)

/-- ITS FALSE NEIGHBOUR: 'it returns false'. Refute it at one input. -/
def filterMoreWrong : ChangeSpec := { name := "filterMore", fn := fun _ => fun
  | [d1, d2, d3, d4] => { results := [.lit (.bool false)], args := [d1, d2, d3, d4] }
  | _ => none }
def FilterMoreWrongFalsely : Prop := filterMoreRow.holds Try.pinned (OpenSpec.ofChange filterMoreWrong)

/-- 'postilionlaw05.FilterNamed': WHATEVER THE INPUT: true; the input reads as it did. -/
def filterNamedSpec : ChangeSpec := { name := "filterNamed", fn := fun _ => fun
  | [d1, d2, d3] => { results := [.lit (.bool true)], args := [d1, d2, d3] }
  | _ => none }
def filterNamedRow : OpenClaim := { program := "ytejdbdfofehdpaa", sum := "ecb03e97425fa2548b8b79e607101e7bf5dc46ad847aab996fb897e0ef1f3b11", func := "postilion/postilionlaw05.FilterNamed", spec := "filterNamed", unfollowed := true, recurses := true, apart := false }
def FilterNamedSaid : Prop := filterNamedRow.holds Try.pinned (OpenSpec.ofChange filterNamedSpec)

/-- ITS FALSE NEIGHBOUR: 'it returns false'. Refute it at one input. -/
def filterNamedWrong : ChangeSpec := { name := "filterNamed", fn := fun _ => fun
  | [d1, d2, d3] => { results := [.lit (.bool false)], args := [d1, d2, d3] }
  | _ => none }
def FilterNamedWrongFalsely : Prop := filterNamedRow.holds Try.pinned (OpenSpec.ofChange filterNamedWrong)

/-- 'postilionlaw05.FilterUnlike': WHATEVER THE INPUT: true; the input reads as it did. -/
def filterUnlikeSpec : ChangeSpec := { name := "filterUnlike", fn := fun _ => fun
  | [d1, d2] => { results := [.lit (.bool true)], args := [d1, d2] }
  | _ => none }
def filterUnlikeRow : OpenClaim := { program := "ytejdbdfofehdpaa", sum := "ecb03e97425fa2548b8b79e607101e7bf5dc46ad847aab996fb897e0ef1f3b11", func := "postilion/postilionlaw05.FilterUnlike", spec := "filterUnlike", unfollowed := true, recurses := true, apart := false }
def FilterUnlikeSaid : Prop := filterUnlikeRow.holds Try.pinned (OpenSpec.ofChange filterUnlikeSpec)

/-- ITS FALSE NEIGHBOUR: 'it returns false'. Refute it at one input. -/
def filterUnlikeWrong : ChangeSpec := { name := "filterUnlike", fn := fun _ => fun
  | [d1, d2] => { results := [.lit (.bool false)], args := [d1, d2] }
  | _ => none }
def FilterUnlikeWrongFalsely : Prop := filterUnlikeRow.holds Try.pinned (OpenSpec.ofChange filterUnlikeWrong)

/- THE SECOND FORM. 'bulk': how many values and letters a reading holds, each counted each time it is reached (what is shared counts as often as it is met; a slice's spare places count too). A statement '..UptoSaid' is the law's where the arguments, and the package variables that the reading takes, are together of bulk at most 1048576: NARROWER than '..Said'. Prove '..Said' where nothing that the law and all that it calls make is longer than what came in: it says more and counts as full. Else prove '..UptoSaid'. A law counts once. -/
mutual
def uptoBulk {H : Type} : DataW H → Nat
  | .lit (.string bytes) => bytes.length + 1
  | .lit _ => 1
  | .nil => 1
  | .ptr d => uptoBulk d + 1
  | .slice elems spare => uptoBulkAll elems + uptoBulkAll spare + 1
  | .agg parts => uptoBulkAll parts + 1
  | .iface _ d => uptoBulk d + 1
  | .map entries => uptoBulkEntries entries + 1
  | .held _ => 1
def uptoBulkAll {H : Type} : List (DataW H) → Nat
  | [] => 0
  | d :: r => uptoBulk d + uptoBulkAll r
def uptoBulkEntries {H : Type} : List (Lit × DataW H) → Nat
  | [] => 0
  | x :: r => uptoBulkEntry x + uptoBulkEntries r
def uptoBulkEntry {H : Type} : Lit × DataW H → Nat
  | (.string bytes, d) => bytes.length + uptoBulk d + 1
  | (_, d) => uptoBulk d + 1
 end
def uptoSmall : (H : Type) → List (DataW H) → Bool := fun _ ds => decide (uptoBulkAll ds ≤ 1048576)
def OpenSpec.upto (s : _root_.Go.ChangeSpec) : _root_.Go.OpenSpec := { _root_.Go.OpenSpec.ofChange s with cond := some uptoSmall }

/-- 'postilionlaw05.FilterNames', WHERE WHAT IT READS IS OF BULK AT MOST 1048576: true; the input reads as it did. -/
def filterNamesUptoRow : OpenClaim := { program := "ytejdbdfofehdpaa", sum := "ecb03e97425fa2548b8b79e607101e7bf5dc46ad847aab996fb897e0ef1f3b11", func := "postilion/postilionlaw05.FilterNames", spec := "filterNames", unfollowed := true, recurses := true, apart := false, narrowed := true }
def FilterNamesUptoSaid : Prop := filterNamesUptoRow.holds Try.pinned (OpenSpec.upto filterNamesSpec)

/-- 'postilionlaw05.FilterTells', WHERE WHAT IT READS IS OF BULK AT MOST 1048576: true; the input reads as it did. -/
def filterTellsUptoRow : OpenClaim := { program := "ytejdbdfofehdpaa", sum := "ecb03e97425fa2548b8b79e607101e7bf5dc46ad847aab996fb897e0ef1f3b11", func := "postilion/postilionlaw05.FilterTells", spec := "filterTells", unfollowed := true, recurses := true, apart := false, narrowed := true }
def FilterTellsUptoSaid : Prop := filterTellsUptoRow.holds Try.pinned (OpenSpec.upto filterTellsSpec)

/-- 'postilionlaw05.FilterDecodes', WHERE WHAT IT READS IS OF BULK AT MOST 1048576: true; the input reads as it did. -/
def filterDecodesUptoRow : OpenClaim := { program := "ytejdbdfofehdpaa", sum := "ecb03e97425fa2548b8b79e607101e7bf5dc46ad847aab996fb897e0ef1f3b11", func := "postilion/postilionlaw05.FilterDecodes", spec := "filterDecodes", unfollowed := true, recurses := true, apart := false, narrowed := true }
def FilterDecodesUptoSaid : Prop := filterDecodesUptoRow.holds Try.pinned (OpenSpec.upto filterDecodesSpec)

/-- 'postilionlaw05.FilterBack', WHERE WHAT IT READS IS OF BULK AT MOST 1048576: true; the input reads as it did. -/
def filterBackUptoRow : OpenClaim := { program := "ytejdbdfofehdpaa", sum := "ecb03e97425fa2548b8b79e607101e7bf5dc46ad847aab996fb897e0ef1f3b11", func := "postilion/postilionlaw05.FilterBack", spec := "filterBack", unfollowed := true, recurses := true, apart := false, narrowed := true }
def FilterBackUptoSaid : Prop := filterBackUptoRow.holds Try.pinned (OpenSpec.upto filterBackSpec)

/-- 'postilionlaw05.FilterMore', WHERE WHAT IT READS IS OF BULK AT MOST 1048576: true; the input reads as it did. -/
def filterMoreUptoRow : OpenClaim := { program := "ytejdbdfofehdpaa", sum := "ecb03e97425fa2548b8b79e607101e7bf5dc46ad847aab996fb897e0ef1f3b11", func := "postilion/postilionlaw05.FilterMore", spec := "filterMore", unfollowed := true, recurses := true, apart := false, narrowed := true }
def FilterMoreUptoSaid : Prop := filterMoreUptoRow.holds Try.pinned (OpenSpec.upto filterMoreSpec)

/-- 'postilionlaw05.FilterNamed', WHERE WHAT IT READS IS OF BULK AT MOST 1048576: true; the input reads as it did. -/
def filterNamedUptoRow : OpenClaim := { program := "ytejdbdfofehdpaa", sum := "ecb03e97425fa2548b8b79e607101e7bf5dc46ad847aab996fb897e0ef1f3b11", func := "postilion/postilionlaw05.FilterNamed", spec := "filterNamed", unfollowed := true, recurses := true, apart := false, narrowed := true }
def FilterNamedUptoSaid : Prop := filterNamedUptoRow.holds Try.pinned (OpenSpec.upto filterNamedSpec)

/-- 'postilionlaw05.FilterUnlike', WHERE WHAT IT READS IS OF BULK AT MOST 1048576: true; the input reads as it did. -/
def filterUnlikeUptoRow : OpenClaim := { program := "ytejdbdfofehdpaa", sum := "ecb03e97425fa2548b8b79e607101e7bf5dc46ad847aab996fb897e0ef1f3b11", func := "postilion/postilionlaw05.FilterUnlike", spec := "filterUnlike", unfollowed := true, recurses := true, apart := false, narrowed := true }
def FilterUnlikeUptoSaid : Prop := filterUnlikeUptoRow.holds Try.pinned (OpenSpec.upto filterUnlikeSpec)

end Rows
end Go.Proofs.Ytejdbdfofehdpaa

/-
  No cell of these rows narrows 'for every input' (looked for: loops, veiled, ifaces, maps, wideKeys, modest, calm, conditions, laid).
  DERIVED. THE GIVEN ROWS OF THIS SEAT. 7 by the template 'for every input the law returns true; each argument reads behind the call as it read before'; 0 by the template 'total and deterministic' (their statements: YtipkjgfhadlblaaTotals.lean).
  GIVEN WITH THE SEED: the statements are not yours to turn. If you find one false, say at which input.
  Laid BY PROGRAM, IN A SANDBOX (cutbox-rows.mjs): the forced cells as the released guide's own fill.sh prints them over the translation 6420f226ea789f2c… (all of the seat's roots in one cut). By AI agents, Wed Nov 11 2026. No macro, syntax, notation, axiom, sorry.
-/
import Derived.Test.YtipkjgfhadlblaaChecked
import GoSem.Claim
import GoSem.ClaimJoined
import GoSem.ClaimMapViews
import Derived.JoinedTies
import Derived.KernelRfl
namespace Go.Proofs.Ytipkjgfhadlblaa
/- THE CELL 'sum', in the pinned program and in every row, IS THE sha256 OF THE DUMP (.gsa) THAT YtipkjgfhadlblaaProg.lean LOADS. Nothing in Lean hashes anything: it is a label: what it is worth is what the hold of that sum in a sandbox is worth. -/
noncomputable def Try.pinned : Pinned := { name := "ytipkjgfhadlblaa", sum := "6420f226ea789f2c450804002b7948fabe63eca29a21d3147179860bd53d026a", checked := Try.checked }
namespace Rows
def none {H : Type} : Left H := { results := [], args := [] }

/-- 'postilionlaw02.PackNames': WHATEVER THE INPUT: true; the input reads as it did. -/
def packNamesSpec : ChangeSpec := { name := "packNames", fn := fun _ => fun
  | [] => { results := [.lit (.bool true)], args := [] }
  | _ => none }
def packNamesRow : OpenClaim := { program := "ytipkjgfhadlblaa", sum := "6420f226ea789f2c450804002b7948fabe63eca29a21d3147179860bd53d026a", func := "postilion/postilionlaw02.PackNames", spec := "packNames", apart := false }
def PackNamesSaid : Prop := packNamesRow.holds Try.pinned (OpenSpec.ofChange packNamesSpec)

/-- ITS FALSE NEIGHBOUR: 'it returns false'. Refute it at one input. -/
def packNamesWrong : ChangeSpec := { name := "packNames", fn := fun _ => fun
  | [] => { results := [.lit (.bool false)], args := [] }
  | _ => none }
def PackNamesWrongFalsely : Prop := packNamesRow.holds Try.pinned (OpenSpec.ofChange packNamesWrong)

/-- 'postilionlaw02.PackRises': WHATEVER THE INPUT: true; the input reads as it did. -/
def packRisesSpec : ChangeSpec := { name := "packRises", fn := fun _ => fun
  | [d1, d2] => { results := [.lit (.bool true)], args := [d1, d2] }
  | _ => none }
def packRisesRow : OpenClaim := { program := "ytipkjgfhadlblaa", sum := "6420f226ea789f2c450804002b7948fabe63eca29a21d3147179860bd53d026a", func := "postilion/postilionlaw02.PackRises", spec := "packRises", apart := false }
def PackRisesSaid : Prop := packRisesRow.holds Try.pinned (OpenSpec.ofChange packRisesSpec)

/-- ITS FALSE NEIGHBOUR: 'it returns false'. Refute it at one input. -/
def packRisesWrong : ChangeSpec := { name := "packRises", fn := fun _ => fun
  | [d1, d2] => { results := [.lit (.bool false)], args := [d1, d2] }
  | _ => none }
def PackRisesWrongFalsely : Prop := packRisesRow.holds Try.pinned (OpenSpec.ofChange packRisesWrong)

/-- 'postilionlaw02.PackTells': WHATEVER THE INPUT: true; the input reads as it did. -/
def packTellsSpec : ChangeSpec := { name := "packTells", fn := fun _ => fun
  | [d1, d2, d3, d4] => { results := [.lit (.bool true)], args := [d1, d2, d3, d4] }
  | _ => none }
def packTellsRow : OpenClaim := { program := "ytipkjgfhadlblaa", sum := "6420f226ea789f2c450804002b7948fabe63eca29a21d3147179860bd53d026a", func := "postilion/postilionlaw02.PackTells", spec := "packTells", apart := false }
def PackTellsSaid : Prop := packTellsRow.holds Try.pinned (OpenSpec.ofChange packTellsSpec)

/-- ITS FALSE NEIGHBOUR: 'it returns false'. Refute it at one input. -/
def packTellsWrong : ChangeSpec := { name := "packTells", fn := fun _ => fun
  | [d1, d2, d3, d4] => { results := [.lit (.bool false)], args := [d1, d2, d3, d4] }
  | _ => none }
def PackTellsWrongFalsely : Prop := packTellsRow.holds Try.pinned (OpenSpec.ofChange packTellsWrong)

/-- 'postilionlaw02.PackReads': WHATEVER THE INPUT: true; the input reads as it did. -/
def packReadsSpec : ChangeSpec := { name := "packReads", fn := fun _ => fun
  | [d1, d2] => { results := [.lit (.bool true)], args := [d1, d2] }
  | _ => none }
def packReadsRow : OpenClaim := { program := "ytipkjgfhadlblaa", sum := "6420f226ea789f2c450804002b7948fabe63eca29a21d3147179860bd53d026a", func := "postilion/postilionlaw02.PackReads", spec := "packReads", apart := false }
def PackReadsSaid : Prop := packReadsRow.holds Try.pinned (OpenSpec.ofChange packReadsSpec)

/-- ITS FALSE NEIGHBOUR: 'it returns false'. Refute it at one input. -/
def packReadsWrong : ChangeSpec := { name := "packReads", fn := fun _ => fun
  | [d1, d2] => { results := [.lit (.bool false)], args := [d1, d2] }
  | _ => none }
def PackReadsWrongFalsely : Prop := packReadsRow.holds Try.pinned (OpenSpec.ofChange packReadsWrong)

/-- 'postilionlaw02.PackBack': WHATEVER THE INPUT: true; the input reads as it did. -/
def packBackSpec : ChangeSpec := { name := "packBack", fn := fun _ => fun
  | [d1, d2, d3] => { results := [.lit (.bool true)], args := [d1, d2, d3] }
  | _ => none }
def packBackRow : OpenClaim := { program := "ytipkjgfhadlblaa", sum := "6420f226ea789f2c450804002b7948fabe63eca29a21d3147179860bd53d026a", func := "postilion/postilionlaw02.PackBack", spec := "packBack", apart := false }
def PackBackSaid : Prop := packBackRow.holds Try.pinned (OpenSpec.ofChange packBackSpec)

/-- ITS FALSE NEIGHBOUR: 'it returns false'. Refute it at one input. -/
def packBackWrong : ChangeSpec := { name := "packBack", fn := fun _ => fun
  | [d1, d2, d3] => { results := [.lit (.bool false)], args := [d1, d2, d3] }
  | _ => none }
def PackBackWrongFalsely : Prop := packBackRow.holds Try.pinned (OpenSpec.ofChange packBackWrong)

/-- 'postilionlaw02.PackOnce': WHATEVER THE INPUT: true; the input reads as it did. -/
def packOnceSpec : ChangeSpec := { name := "packOnce", fn := fun _ => fun
  | [d] => { results := [.lit (.bool true)], args := [d] }
  | _ => none }
def packOnceRow : OpenClaim := { program := "ytipkjgfhadlblaa", sum := "6420f226ea789f2c450804002b7948fabe63eca29a21d3147179860bd53d026a", func := "postilion/postilionlaw02.PackOnce", spec := "packOnce", apart := false }
def PackOnceSaid : Prop := packOnceRow.holds Try.pinned (OpenSpec.ofChange packOnceSpec)

/-- ITS FALSE NEIGHBOUR: 'it returns false'. Refute it at one input. -/
def packOnceWrong : ChangeSpec := { name := "packOnce", fn := fun _ => fun
  | [d] => { results := [.lit (.bool false)], args := [d] }
  | _ => none }
def PackOnceWrongFalsely : Prop := packOnceRow.holds Try.pinned (OpenSpec.ofChange packOnceWrong)

/-- 'postilionlaw02.PackNil': WHATEVER THE INPUT: true; the input reads as it did. -/
def packNilSpec : ChangeSpec := { name := "packNil", fn := fun _ => fun
  | [d] => { results := [.lit (.bool true)], args := [d] }
  | _ => none }
def packNilRow : OpenClaim := { program := "ytipkjgfhadlblaa", sum := "6420f226ea789f2c450804002b7948fabe63eca29a21d3147179860bd53d026a", func := "postilion/postilionlaw02.PackNil", spec := "packNil", apart := false }
def PackNilSaid : Prop := packNilRow.holds Try.pinned (OpenSpec.ofChange packNilSpec)

/-- ITS FALSE NEIGHBOUR: 'it returns false'. Refute it at one input. -/
def packNilWrong : ChangeSpec := { name := "packNil", fn := fun _ => fun
  | [d] => { results := [.lit (.bool false)], args := [d] }
  | _ => none }
def PackNilWrongFalsely : Prop := packNilRow.holds Try.pinned (OpenSpec.ofChange packNilWrong)

/- THE SECOND FORM. 'bulk': how many values and letters a reading holds, each counted each time it is reached (what is shared counts as often as it is met; a slice's spare places count too). A statement '..UptoSaid' is the law's where the arguments, and the package variables that the reading takes, are together of bulk at most 1048576: NARROWER than '..Said'. Prove '..Said' where nothing that the law and all that it calls make is longer than what came in: it says more and counts as full. Else prove '..UptoSaid'. A law counts once. -/
mutual
def uptoBulk {H : Type} : DataW H → Nat
  | .lit (.string bytes) => bytes.length + 1
  | .lit _ => 1
  | .nil => 1
  | .ptr d => uptoBulk d + 1
  | .slice elems spare => uptoBulkAll elems + uptoBulkAll spare + 1
  | .agg parts => uptoBulkAll parts + 1
  | .iface _ d => uptoBulk d + 1
  | .map entries => uptoBulkEntries entries + 1
  | .held _ => 1
def uptoBulkAll {H : Type} : List (DataW H) → Nat
  | [] => 0
  | d :: r => uptoBulk d + uptoBulkAll r
def uptoBulkEntries {H : Type} : List (Lit × DataW H) → Nat
  | [] => 0
  | x :: r => uptoBulkEntry x + uptoBulkEntries r
def uptoBulkEntry {H : Type} : Lit × DataW H → Nat
  | (.string bytes, d) => bytes.length + uptoBulk d + 1
  | (_, d) => uptoBulk d + 1
 end
def uptoSmall : (H : Type) → List (DataW H) → Bool := fun _ ds => decide (uptoBulkAll ds ≤ 1048576)
def OpenSpec.upto (s : _root_.Go.ChangeSpec) : _root_.Go.OpenSpec := { _root_.Go.OpenSpec.ofChange s with cond := some uptoSmall }

/-- 'postilionlaw02.PackNames', WHERE WHAT IT READS IS OF BULK AT MOST 1048576: true; the input reads as it did. -/
def packNamesUptoRow : OpenClaim := { program := "ytipkjgfhadlblaa", sum := "6420f226ea789f2c450804002b7948fabe63eca29a21d3147179860bd53d026a", func := "postilion/postilionlaw02.PackNames", spec := "packNames", apart := false, narrowed := true }
def PackNamesUptoSaid : Prop := packNamesUptoRow.holds Try.pinned (OpenSpec.upto packNamesSpec)

/-- 'postilionlaw02.PackRises', WHERE WHAT IT READS IS OF BULK AT MOST 1048576: true; the input reads as it did. -/
def packRisesUptoRow : OpenClaim := { program := "ytipkjgfhadlblaa", sum := "6420f226ea789f2c450804002b7948fabe63eca29a21d3147179860bd53d026a", func := "postilion/postilionlaw02.PackRises", spec := "packRises", apart := false, narrowed := true }
def PackRisesUptoSaid : Prop := packRisesUptoRow.holds Try.pinned (OpenSpec.upto packRisesSpec)

/-- 'postilionlaw02.PackTells', WHERE WHAT IT READS IS OF BULK AT MOST 1048576: true; the input reads as it did. -/
def packTellsUptoRow : OpenClaim := { program := "ytipkjgfhadlblaa", sum := "6420f226ea789f2c450804002b7948fabe63eca29a21d3147179860bd53d026a", func := "postilion/postilionlaw02.PackTells", spec := "packTells", apart := false, narrowed := true }
def PackTellsUptoSaid : Prop := packTellsUptoRow.holds Try.pinned (OpenSpec.upto packTellsSpec)

/-- 'postilionlaw02.PackReads', WHERE WHAT IT READS IS OF BULK AT MOST 1048576: true; the input reads as it did. -/
def packReadsUptoRow : OpenClaim := { program := "ytipkjgfhadlblaa", sum := "6420f226ea789f2c450804002b7948fabe63eca29a21d3147179860bd53d026a", func := "postilion/postilionlaw02.PackReads", spec := "packReads", apart := false, narrowed := true }
def PackReadsUptoSaid : Prop := packReadsUptoRow.holds Try.pinned (OpenSpec.upto packReadsSpec)

/-- 'postilionlaw02.PackBack', WHERE WHAT IT READS IS OF BULK AT MOST 1048576: true; the input reads as it did. -/
def packBackUptoRow : OpenClaim := { program := "ytipkjgfhadlblaa", sum := "6420f226ea789f2c450804002b7948fabe63eca29a21d3147179860bd53d026a", func := "postilion/postilionlaw02.PackBack", spec := "packBack", apart := false, narrowed := true }
def PackBackUptoSaid : Prop := packBackUptoRow.holds Try.pinned (OpenSpec.upto packBackSpec)

/-- 'postilionlaw02.PackOnce', WHERE WHAT IT READS IS OF BULK AT MOST 1048576: true; the input reads as it did. -/
def packOnceUptoRow : OpenClaim := { program := "ytipkjgfhadlblaa", sum := "6420f226ea789f2c450804002b7948fabe63eca29a21d3147179860bd53d026a", func := "postilion/postilionlaw02.PackOnce", spec := "packOnce", apart := false, narrowed := true }
def PackOnceUptoSaid : Prop := packOnceUptoRow.holds Try.pinned (OpenSpec.upto packOnceSpec)

/-- 'postilionlaw02.PackNil', WHERE WHAT IT READS IS OF BULK AT MOST 1048576: true; the input reads as it did. -/
def packNilUptoRow : OpenClaim := { program := "ytipkjgfhadlblaa", sum := "6420f226ea789f2c450804002b7948fabe63eca29a21d3147179860bd53d026a", func := "postilion/postilionlaw02.PackNil", spec := "packNil", apart := false, narrowed := true }
def PackNilUptoSaid : Prop := packNilUptoRow.holds Try.pinned (OpenSpec.upto packNilSpec)

end Rows
end Go.Proofs.Ytipkjgfhadlblaa

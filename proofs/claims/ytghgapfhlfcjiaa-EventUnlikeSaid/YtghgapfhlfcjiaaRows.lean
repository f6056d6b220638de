/-
  No cell of these rows narrows 'for every input' (looked for: loops, veiled, ifaces, maps, wideKeys, modest, calm, conditions, laid).
  DERIVED. THE GIVEN ROWS OF THIS SEAT. 7 by the template 'for every input the law returns true; each argument reads behind the call as it read before'; 0 by the template 'total and deterministic' (their statements: YtghgapfhlfcjiaaTotals.lean).
  GIVEN WITH THE SEED: the statements are not yours to turn. If you find one false, say at which input.
  Laid BY PROGRAM, IN A SANDBOX (cutbox-rows.mjs): the forced cells as the released guide's own fill.sh prints them over the translation a5a9f6192f3d0188… (all of the seat's roots in one cut). By AI agents, Wed Nov 11 2026. No macro, syntax, notation, axiom, sorry.
-/
import Derived.Test.YtghgapfhlfcjiaaChecked
import GoSem.Claim
import GoSem.ClaimJoined
import GoSem.ClaimMapViews
import Derived.JoinedTies
import Derived.KernelRfl
namespace Go.Proofs.Ytghgapfhlfcjiaa
/- THE CELL 'sum', in the pinned program and in every row, IS THE sha256 OF THE DUMP (.gsa) THAT YtghgapfhlfcjiaaProg.lean LOADS. Nothing in Lean hashes anything: it is a label: what it is worth is what the hold of that sum in a sandbox is worth. -/
noncomputable def Try.pinned : Pinned := { name := "ytghgapfhlfcjiaa", sum := "a5a9f6192f3d0188691a1ea45339051259b7a41bc21fdeff46ca814c810b00d3", checked := Try.checked }
namespace Rows
def none {H : Type} : Left H := { results := [], args := [] }

/-- 'postilionlaw04.EventNames': WHATEVER THE INPUT: true; the input reads as it did. -/
def eventNamesSpec : ChangeSpec := { name := "eventNames", fn := fun _ => fun
  | [] => { results := [.lit (.bool true)], args := [] }
  | _ => none }
def eventNamesRow : OpenClaim := { program := "ytghgapfhlfcjiaa", sum := "a5a9f6192f3d0188691a1ea45339051259b7a41bc21fdeff46ca814c810b00d3", func := "postilion/postilionlaw04.EventNames", spec := "eventNames", unfollowed := true, recurses := true, apart := false }
def EventNamesSaid : Prop := eventNamesRow.holds Try.pinned (OpenSpec.ofChange eventNamesSpec)

/-- ITS FALSE NEIGHBOUR: 'it returns false'. Refute it at one input. -/
def eventNamesWrong : ChangeSpec := { name := "eventNames", fn := fun _ => fun
  | [] => { results := [.lit (.bool false)], args := [] }
  | _ => none }
def EventNamesWrongFalsely : Prop := eventNamesRow.holds Try.pinned (OpenSpec.ofChange eventNamesWrong)

/-- 'postilionlaw04.EventTells': WHATEVER THE INPUT: true; the input reads as it did. -/
def eventTellsSpec : ChangeSpec := { name := "eventTells", fn := fun _ => fun
  | [d1, d2] => { results := [.lit (.bool true)], args := [d1, d2] }
  | _ => none }
def eventTellsRow : OpenClaim := { program := "ytghgapfhlfcjiaa", sum := "a5a9f6192f3d0188691a1ea45339051259b7a41bc21fdeff46ca814c810b00d3", func := "postilion/postilionlaw04.EventTells", spec := "eventTells", unfollowed := true, recurses := true, apart := false }
def EventTellsSaid : Prop := eventTellsRow.holds Try.pinned (OpenSpec.ofChange eventTellsSpec)

/-- ITS FALSE NEIGHBOUR: 'it returns false'. Refute it at one input. -/
def eventTellsWrong : ChangeSpec := { name := "eventTells", fn := fun _ => fun
  | [d1, d2] => { results := [.lit (.bool false)], args := [d1, d2] }
  | _ => none }
def EventTellsWrongFalsely : Prop := eventTellsRow.holds Try.pinned (OpenSpec.ofChange eventTellsWrong)

/-- 'postilionlaw04.EventDecodes': WHATEVER THE INPUT: true; the input reads as it did. -/
def eventDecodesSpec : ChangeSpec := { name := "eventDecodes", fn := fun _ => fun
  | [d] => { results := [.lit (.bool true)], args := [d] }
  | _ => none }
def eventDecodesRow : OpenClaim := { program := "ytghgapfhlfcjiaa", sum := "a5a9f6192f3d0188691a1ea45339051259b7a41bc21fdeff46ca814c810b00d3", func := "postilion/postilionlaw04.EventDecodes", spec := "eventDecodes", unfollowed := true, recurses := true, apart := false }
def EventDecodesSaid : Prop := eventDecodesRow.holds Try.pinned (OpenSpec.ofChange eventDecodesSpec)

/-- ITS FALSE NEIGHBOUR: 'it returns false'. Refute it at one input. -/
def eventDecodesWrong : ChangeSpec := { name := "eventDecodes", fn := fun _ => fun
  | [d] => { results := [.lit (.bool false)], args := [d] }
  | _ => none }
def EventDecodesWrongFalsely : Prop := eventDecodesRow.holds Try.pinned (OpenSpec.ofChange eventDecodesWrong)

/-- 'postilionlaw04.EventBack': WHATEVER THE INPUT: true; the input reads as it did. -/
def eventBackSpec : ChangeSpec := { name := "eventBack", fn := fun _ => fun
  | [d1, d2, d3] => { results := [.lit (.bool true)], args := [d1, d2, d3] }
  | _ => none }
def eventBackRow : OpenClaim := { program := "ytghgapfhlfcjiaa", sum := "a5a9f6192f3d0188691a1ea45339051259b7a41bc21fdeff46ca814c810b00d3", func := "postilion/postilionlaw04.EventBack", spec := "eventBack", unfollowed := true, recurses := true, apart := false }
def EventBackSaid : Prop := eventBackRow.holds Try.pinned (OpenSpec.ofChange eventBackSpec)

/-- ITS FALSE NEIGHBOUR: 'it returns false'. Refute it at one input. -/
def eventBackWrong : ChangeSpec := { name := "eventBack", fn := fun _ => fun
  | [d1, d2, d3] => { results := [.lit (.bool false)], args := [d1, d2, d3] }
  | _ => none }
def EventBackWrongFalsely : Prop := eventBackRow.holds Try.pinned (OpenSpec.ofChange eventBackWrong)

/-- 'postilionlaw04.EventFinds': WHATEVER THE INPUT: true; the input reads as it did. -/
def eventFindsSpec : ChangeSpec := { name := "eventFinds", fn := fun _ => fun
  | [d1, d2] => { results := [.lit (.bool true)], args := [d1, d2] }
  | _ => none }
def eventFindsRow : OpenClaim := { program := "ytghgapfhlfcjiaa", sum := "a5a9f6192f3d0188691a1ea45339051259b7a41bc21fdeff46ca814c810b00d3", func := "postilion/postilionlaw04.EventFinds", spec := "eventFinds", unfollowed := true, recurses := true, apart := false }
def EventFindsSaid : Prop := eventFindsRow.holds Try.pinned (OpenSpec.ofChange eventFindsSpec)

/-- ITS FALSE NEIGHBOUR: 'it returns false'. Refute it at one input. -/
def eventFindsWrong : ChangeSpec := { name := "eventFinds", fn := fun _ => fun
  | [d1, d2] => { results := [.lit (.bool false)], args := [d1, d2] }
  | _ => none }
def EventFindsWrongFalsely : Prop := eventFindsRow.holds Try.pinned (OpenSpec.ofChange eventFindsWrong)

/-- 'postilionlaw04.EventLess': WHATEVER THE INPUT: true; the input reads as it did. -/
def eventLessSpec : ChangeSpec := { name := "eventLess", fn := fun _ => fun
  | [d1, d2] => { results := [.lit (.bool true)], args := [d1, d2] }
  | _ => none }
def eventLessRow : OpenClaim := { program := "ytghgapfhlfcjiaa", sum := "a5a9f6192f3d0188691a1ea45339051259b7a41bc21fdeff46ca814c810b00d3", func := "postilion/postilionlaw04.EventLess", spec := "eventLess", unfollowed := true, recurses := true, apart := false }
def EventLessSaid : Prop := eventLessRow.holds Try.pinned (OpenSpec.ofChange eventLessSpec)

/-- ITS FALSE NEIGHBOUR: 'it returns false'. Refute it at one input. -/
def eventLessWrong : ChangeSpec := { name := "eventLess", fn := fun _ => fun
  | [d1, d2] => { results := [.lit (.bool false)], args := [d1, d2] }
  | _ => none }
def EventLessWrongFalsely : Prop := eventLessRow.holds Try.pinned (OpenSpec.ofChange eventLessWrong)

/-- 'postilionlaw04.EventUnlike': WHATEVER THE INPUT: true; the input reads as it did. -/
def eventUnlikeSpec : ChangeSpec := { name := "eventUnlike", fn := fun _ => fun
  | [d1, d2] => { results := [.lit (.bool true)], args := [d1, d2] }
  | _ => none }
def eventUnlikeRow : OpenClaim := { program := "ytghgapfhlfcjiaa", sum := "a5a9f6192f3d0188691a1ea45339051259b7a41bc21fdeff46ca814c810b00d3", func := "postilion/postilionlaw04.EventUnlike", spec := "eventUnlike", unfollowed := true, recurses := true, apart := false }
def EventUnlikeSaid : Prop := eventUnlikeRow.holds Try.pinned (OpenSpec.ofChange eventUnlikeSpec)

/-- ITS FALSE NEIGHBOUR: 'it returns false'. Refute it at one input. -/
def eventUnlikeWrong : ChangeSpec := { name := "eventUnlike", fn := fun _ => fun
  | [d1, d2] => { results := [.lit (.bool false)], args := [d1, d2] }
  | _ => none }
def EventUnlikeWrongFalsely : Prop := eventUnlikeRow.holds Try.pinned (OpenSpec.ofChange eventUnlikeWrong)

/- THE SECOND FORM. 'bulk': how many values and letters a reading holds, each counted each time it is reached (what is shared counts as often as it is met; a slice's spare places count too). A statement '..UptoSaid' is the law's where the arguments, and the package variables that the reading takes, are together of bulk at most 1048576: NARROWER than '..Said'. Prove '..Said' where nothing that the law and all that it calls make is longer than what came in: it says more and counts as full. Else prove '..UptoSaid'. A law counts once. -/
mutual
def uptoBulk {H : Type} : DataW H → Nat
  | .lit (.string bytes) => bytes.length + 1
  | .lit _ => 1
  | .nil => 1
  | .ptr d => uptoBulk d + 1
  | .slice elems spare => uptoBulkAll elems + uptoBulkAll spare + 1
  | .agg parts => uptoBulkAll parts + 1
  | .iface _ d => uptoBulk d + 1
  | .map entries => uptoBulkEntries entries + 1
  | .held _ => 1
def uptoBulkAll {H : Type} : List (DataW H) → Nat
  | [] => 0
  | d :: r => uptoBulk d + uptoBulkAll r
def uptoBulkEntries {H : Type} : List (Lit × DataW H) → Nat
  | [] => 0
  | x :: r => uptoBulkEntry x + uptoBulkEntries r
def uptoBulkEntry {H : Type} : Lit × DataW H → Nat
  | (.string bytes, d) => bytes.length + uptoBulk d + 1
  | (_, d) => uptoBulk d + 1
 end
def uptoSmall : (H : Type) → List (DataW H) → Bool := fun _ ds => decide (uptoBulkAll ds ≤ 1048576)
def OpenSpec.upto (s : _root_.Go.ChangeSpec) : _root_.Go.OpenSpec := { _root_.Go.OpenSpec.ofChange s with cond := some uptoSmall }

/-- 'postilionlaw04.EventNames', WHERE WHAT IT READS IS OF BULK AT MOST 1048576: true; the input reads as it did. -/
def eventNamesUptoRow : OpenClaim := { program := "ytghgapfhlfcjiaa", sum := "a5a9f6192f3d0188691a1ea45339051259b7a41bc21fdeff46ca814c810b00d3", func := "postilion/postilionlaw04.EventNames", spec := "eventNames", unfollowed := true, recurses := true, apart := false, narrowed := true }
def EventNamesUptoSaid : Prop := eventNamesUptoRow.holds Try.pinned (OpenSpec.upto eventNamesSpec)

/-- 'postilionlaw04.EventTells', WHERE WHAT IT READS IS OF BULK AT MOST 1048576: true; the input reads as it did. -/
def eventTellsUptoRow : OpenClaim := { program := "ytghgapfhlfcjiaa", sum := "a5a9f6192f3d0188691a1ea45339051259b7a41bc21fdeff46ca814c810b00d3", func := "postilion/postilionlaw04.EventTells", spec := "eventTells", unfollowed := true, recurses := true, apart := false, narrowed := true }
def EventTellsUptoSaid : Prop := eventTellsUptoRow.holds Try.pinned (OpenSpec.upto eventTellsSpec)

/-- 'postilionlaw04.EventDecodes', WHERE WHAT IT READS IS OF BULK AT MOST 1048576: true; the input reads as it did. -/
def eventDecodesUptoRow : OpenClaim := { program := "ytghgapfhlfcjiaa", sum := "a5a9f6192f3d0188691a1ea45339051259b7a41bc21fdeff46ca814c810b00d3", func := "postilion/postilionlaw04.EventDecodes", spec := "eventDecodes", unfollowed := true, recurses := true, apart := false, narrowed := true }
def EventDecodesUptoSaid : Prop := eventDecodesUptoRow.holds Try.pinned (OpenSpec.upto eventDecodesSpec)

/-- 'postilionlaw04.EventBack', WHERE WHAT IT READS IS OF BULK AT MOST 1048576: true; the input reads as it did. -/
def eventBackUptoRow : OpenClaim := { program := "ytghgapfhlfcjiaa", sum := "a5a9f6192f3d0188691a1ea45339051259b7a41bc21fdeff46ca814c810b00d3", func := "postilion/postilionlaw04.EventBack", spec := "eventBack", unfollowed := true, recurses := true, apart := false, narrowed := true }
def EventBackUptoSaid : Prop := eventBackUptoRow.holds Try.pinned (OpenSpec.upto eventBackSpec)

/-- 'postilionlaw04.EventFinds', WHERE WHAT IT READS IS OF BULK AT MOST 1048576: true; the input reads as it did. -/
def eventFindsUptoRow : OpenClaim := { program := "ytghgapfhlfcjiaa", sum := "a5a9f6192f3d0188691a1ea45339051259b7a41bc21fdeff46ca814c810b00d3", func := "postilion/postilionlaw04.EventFinds", spec := "eventFinds", unfollowed := true, recurses := true, apart := false, narrowed := true }
def EventFindsUptoSaid : Prop := eventFindsUptoRow.holds Try.pinned (OpenSpec.upto eventFindsSpec)

/-- 'postilionlaw04.EventLess', WHERE WHAT IT READS IS OF BULK AT MOST 1048576: true; the input reads as it did. -/
def eventLessUptoRow : OpenClaim := { program := "ytghgapfhlfcjiaa", sum := "a5a9f6192f3d0188691a1ea45339051259b7a41bc21fdeff46ca814c810b00d3", func := "postilion/postilionlaw04.EventLess", spec := "eventLess", unfollowed := true, recurses := true, apart := false, narrowed := true }
def EventLessUptoSaid : Prop := eventLessUptoRow.holds Try.pinned (OpenSpec.upto eventLessSpec)

/-- 'postilionlaw04.EventUnlike', WHERE WHAT IT READS IS OF BULK AT MOST 1048576: true; the input reads as it did. -/
def eventUnlikeUptoRow : OpenClaim := { program := "ytghgapfhlfcjiaa", sum := "a5a9f6192f3d0188691a1ea45339051259b7a41bc21fdeff46ca814c810b00d3", func := "postilion/postilionlaw04.EventUnlike", spec := "eventUnlike", unfollowed := true, recurses := true, apart := false, narrowed := true }
def EventUnlikeUptoSaid : Prop := eventUnlikeUptoRow.holds Try.pinned (OpenSpec.upto eventUnlikeSpec)

end Rows
end Go.Proofs.Ytghgapfhlfcjiaa

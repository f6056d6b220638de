/-
  No cell of these rows narrows 'for every input' (looked for: loops, veiled, ifaces, maps, wideKeys, modest, calm, conditions, laid).
  DERIVED. THE GIVEN ROWS OF THIS SEAT. 11 by the template 'for every input the law returns true; each argument reads behind the call as it read before'; 0 by the template 'total and deterministic' (their statements: YtjcdgbnbaiebdaaTotals.lean).
  GIVEN WITH THE SEED: the statements are not yours to turn. If you find one false, say at which input.
  Laid BY PROGRAM, IN A SANDBOX (cutbox-rows.mjs): the forced cells as the released guide's own fill.sh prints them over the translation 29ff5fcf946b3ebf… (all of the seat's roots in one cut). By AI agents, Wed Nov 11 2026. No macro, syntax, notation, axiom, sorry.
-/
import Derived.Test.YtjcdgbnbaiebdaaChecked
import GoSem.Claim
import GoSem.ClaimJoined
import GoSem.ClaimMapViews
import Derived.JoinedTies
import Derived.KernelRfl
namespace Go.Proofs.Ytjcdgbnbaiebdaa
/- THE CELL 'sum', in the pinned program and in every row, IS THE sha256 OF THE DUMP (.gsa) THAT YtjcdgbnbaiebdaaProg.lean LOADS. Nothing in Lean hashes anything: it is a label: what it is worth is what the hold of that sum in a sandbox is worth. -/
noncomputable def Try.pinned : Pinned := { name := "ytjcdgbnbaiebdaa", sum := "29ff5fcf946b3ebf547b68903e6a2612dbca45904bb1483575fb8fa7e591faf1", checked := Try.checked }
namespace Rows
def none {H : Type} : Left H := { results := [], args := [] }

/-- 'postilionlaw17.StageNames': WHATEVER THE INPUT: true; the input reads as it did. -/
def stageNamesSpec : ChangeSpec := { name := "stageNames", fn := fun _ => fun
  | [] => { results := [.lit (.bool true)], args := [] }
  | _ => none }
def stageNamesRow : OpenClaim := { program := "ytjcdgbnbaiebdaa", sum := "29ff5fcf946b3ebf547b68903e6a2612dbca45904bb1483575fb8fa7e591faf1", func := "postilion/postilionlaw17.StageNames", spec := "stageNames", unfollowed := true, recurses := true, apart := false }
def StageNamesSaid : Prop := stageNamesRow.holds Try.pinned (OpenSpec.ofChange stageNamesSpec)

/-- ITS FALSE NEIGHBOUR: 'it returns false'. Refute it at one input. -/
def stageNamesWrong : ChangeSpec := { name := "stageNames", fn := fun _ => fun
  | [] => { results := [.lit (.bool false)], args := [] }
  | _ => none }
def StageNamesWrongFalsely : Prop := stageNamesRow.holds Try.pinned (OpenSpec.ofChange stageNamesWrong)

/-- 'postilionlaw17.StageStays': WHATEVER THE INPUT: true; the input reads as it did. -/
def stageStaysSpec : ChangeSpec := { name := "stageStays", fn := fun _ => fun
  | [d1, d2] => { results := [.lit (.bool true)], args := [d1, d2] }
  | _ => none }
def stageStaysRow : OpenClaim := { program := "ytjcdgbnbaiebdaa", sum := "29ff5fcf946b3ebf547b68903e6a2612dbca45904bb1483575fb8fa7e591faf1", func := "postilion/postilionlaw17.StageStays", spec := "stageStays", unfollowed := true, recurses := true, apart := false }
def StageStaysSaid : Prop := stageStaysRow.holds Try.pinned (OpenSpec.ofChange stageStaysSpec)

/-- ITS FALSE NEIGHBOUR: 'it returns false'. Refute it at one input. -/
def stageStaysWrong : ChangeSpec := { name := "stageStays", fn := fun _ => fun
  | [d1, d2] => { results := [.lit (.bool false)], args := [d1, d2] }
  | _ => none }
def StageStaysWrongFalsely : Prop := stageStaysRow.holds Try.pinned (OpenSpec.ofChange stageStaysWrong)

/-- 'postilionlaw17.StageHolds': WHATEVER THE INPUT: true; the input reads as it did. -/
def stageHoldsSpec : ChangeSpec := { name := "stageHolds", fn := fun _ => fun
  | [d1, d2, d3] => { results := [.lit (.bool true)], args := [d1, d2, d3] }
  | _ => none }
def stageHoldsRow : OpenClaim := { program := "ytjcdgbnbaiebdaa", sum := "29ff5fcf946b3ebf547b68903e6a2612dbca45904bb1483575fb8fa7e591faf1", func := "postilion/postilionlaw17.StageHolds", spec := "stageHolds", unfollowed := true, recurses := true, apart := false }
def StageHoldsSaid : Prop := stageHoldsRow.holds Try.pinned (OpenSpec.ofChange stageHoldsSpec)

/-- ITS FALSE NEIGHBOUR: 'it returns false'. Refute it at one input. -/
def stageHoldsWrong : ChangeSpec := { name := "stageHolds", fn := fun _ => fun
  | [d1, d2, d3] => { results := [.lit (.bool false)], args := [d1, d2, d3] }
  | _ => none }
def StageHoldsWrongFalsely : Prop := stageHoldsRow.holds Try.pinned (OpenSpec.ofChange stageHoldsWrong)

/-- 'postilionlaw17.StageAlone': WHATEVER THE INPUT: true; the input reads as it did. -/
def stageAloneSpec : ChangeSpec := { name := "stageAlone", fn := fun _ => fun
  | [d1, d2] => { results := [.lit (.bool true)], args := [d1, d2] }
  | _ => none }
def stageAloneRow : OpenClaim := { program := "ytjcdgbnbaiebdaa", sum := "29ff5fcf946b3ebf547b68903e6a2612dbca45904bb1483575fb8fa7e591faf1", func := "postilion/postilionlaw17.StageAlone", spec := "stageAlone", unfollowed := true, recurses := true, apart := false }
def StageAloneSaid : Prop := stageAloneRow.holds Try.pinned (OpenSpec.ofChange stageAloneSpec)

/-- ITS FALSE NEIGHBOUR: 'it returns false'. Refute it at one input. -/
def stageAloneWrong : ChangeSpec := { name := "stageAlone", fn := fun _ => fun
  | [d1, d2] => { results := [.lit (.bool false)], args := [d1, d2] }
  | _ => none }
def StageAloneWrongFalsely : Prop := stageAloneRow.holds Try.pinned (OpenSpec.ofChange stageAloneWrong)

/-- 'postilionlaw17.StageAsks': WHATEVER THE INPUT: true; the input reads as it did. -/
def stageAsksSpec : ChangeSpec := { name := "stageAsks", fn := fun _ => fun
  | [d] => { results := [.lit (.bool true)], args := [d] }
  | _ => none }
def stageAsksRow : OpenClaim := { program := "ytjcdgbnbaiebdaa", sum := "29ff5fcf946b3ebf547b68903e6a2612dbca45904bb1483575fb8fa7e591faf1", func := "postilion/postilionlaw17.StageAsks", spec := "stageAsks", unfollowed := true, recurses := true, apart := false }
def StageAsksSaid : Prop := stageAsksRow.holds Try.pinned (OpenSpec.ofChange stageAsksSpec)

/-- ITS FALSE NEIGHBOUR: 'it returns false'. Refute it at one input. -/
def stageAsksWrong : ChangeSpec := { name := "stageAsks", fn := fun _ => fun
  | [d] => { results := [.lit (.bool false)], args := [d] }
  | _ => none }
def StageAsksWrongFalsely : Prop := stageAsksRow.holds Try.pinned (OpenSpec.ofChange stageAsksWrong)

/-- 'postilionlaw11.EntryNames': WHATEVER THE INPUT: true; the input reads as it did. -/
def entryNamesSpec : ChangeSpec := { name := "entryNames", fn := fun _ => fun
  | [] => { results := [.lit (.bool true)], args := [] }
  | _ => none }
def entryNamesRow : OpenClaim := { program := "ytjcdgbnbaiebdaa", sum := "29ff5fcf946b3ebf547b68903e6a2612dbca45904bb1483575fb8fa7e591faf1", func := "postilion/postilionlaw11.EntryNames", spec := "entryNames", unfollowed := true, recurses := true, apart := false }
def EntryNamesSaid : Prop := entryNamesRow.holds Try.pinned (OpenSpec.ofChange entryNamesSpec)

/-- ITS FALSE NEIGHBOUR: 'it returns false'. Refute it at one input. -/
def entryNamesWrong : ChangeSpec := { name := "entryNames", fn := fun _ => fun
  | [] => { results := [.lit (.bool false)], args := [] }
  | _ => none }
def EntryNamesWrongFalsely : Prop := entryNamesRow.holds Try.pinned (OpenSpec.ofChange entryNamesWrong)

/-- 'postilionlaw11.EntryBack': WHATEVER THE INPUT: true; the input reads as it did. -/
def entryBackSpec : ChangeSpec := { name := "entryBack", fn := fun _ => fun
  | [d1, d2, d3] => { results := [.lit (.bool true)], args := [d1, d2, d3] }
  | _ => none }
def entryBackRow : OpenClaim := { program := "ytjcdgbnbaiebdaa", sum := "29ff5fcf946b3ebf547b68903e6a2612dbca45904bb1483575fb8fa7e591faf1", func := "postilion/postilionlaw11.EntryBack", spec := "entryBack", unfollowed := true, recurses := true, apart := false }
def EntryBackSaid : Prop := entryBackRow.holds Try.pinned (OpenSpec.ofChange entryBackSpec)

/-- ITS FALSE NEIGHBOUR: 'it returns false'. Refute it at one input. -/
def entryBackWrong : ChangeSpec := { name := "entryBack", fn := fun _ => fun
  | [d1, d2, d3] => { results := [.lit (.bool false)], args := [d1, d2, d3] }
  | _ => none }
def EntryBackWrongFalsely : Prop := entryBackRow.holds Try.pinned (OpenSpec.ofChange entryBackWrong)

/-- 'postilionlaw11.EntryOnce': WHATEVER THE INPUT: true; the input reads as it did. -/
def entryOnceSpec : ChangeSpec := { name := "entryOnce", fn := fun _ => fun
  | [d] => { results := [.lit (.bool true)], args := [d] }
  | _ => none }
def entryOnceRow : OpenClaim := { program := "ytjcdgbnbaiebdaa", sum := "29ff5fcf946b3ebf547b68903e6a2612dbca45904bb1483575fb8fa7e591faf1", func := "postilion/postilionlaw11.EntryOnce", spec := "entryOnce", unfollowed := true, recurses := true, apart := false }
def EntryOnceSaid : Prop := entryOnceRow.holds Try.pinned (OpenSpec.ofChange entryOnceSpec)

/-- ITS FALSE NEIGHBOUR: 'it returns false'. Refute it at one input. -/
def entryOnceWrong : ChangeSpec := { name := "entryOnce", fn := fun _ => fun
  | [d] => { results := [.lit (.bool false)], args := [d] }
  | _ => none }
def EntryOnceWrongFalsely : Prop := entryOnceRow.holds Try.pinned (OpenSpec.ofChange entryOnceWrong)

/-- 'postilionlaw11.EntryLess': WHATEVER THE INPUT: true; the input reads as it did. -/
def entryLessSpec : ChangeSpec := { name := "entryLess", fn := fun _ => fun
  | [d1, d2, d3] => { results := [.lit (.bool true)], args := [d1, d2, d3] }
  | _ => none }
def entryLessRow : OpenClaim := { program := "ytjcdgbnbaiebdaa", sum := "29ff5fcf946b3ebf547b68903e6a2612dbca45904bb1483575fb8fa7e591faf1", func := "postilion/postilionlaw11.EntryLess", spec := "entryLess", unfollowed := true, recurses := true, apart := false }
def EntryLessSaid : Prop := entryLessRow.holds Try.pinned (OpenSpec.ofChange entryLessSpec)

/-- ITS FALSE NEIGHBOUR: 'it returns false'. Refute it at one input. -/
def entryLessWrong : ChangeSpec := { name := "entryLess", fn := fun _ => fun
  | [d1, d2, d3] => { results := [.lit (.bool false)], args := [d1, d2, d3] }
  | _ => none }
def EntryLessWrongFalsely : Prop := entryLessRow.holds Try.pinned (OpenSpec.ofChange entryLessWrong)

/-- 'postilionlaw11.EntryApart': WHATEVER THE INPUT: true; the input reads as it did. -/
def entryApartSpec : ChangeSpec := { name := "entryApart", fn := fun _ => fun
  | [d1, d2, d3, d4] => { results := [.lit (.bool true)], args := [d1, d2, d3, d4] }
  | _ => none }
def entryApartRow : OpenClaim := { program := "ytjcdgbnbaiebdaa", sum := "29ff5fcf946b3ebf547b68903e6a2612dbca45904bb1483575fb8fa7e591faf1", func := "postilion/postilionlaw11.EntryApart", spec := "entryApart", unfollowed := true, recurses := true, apart := false }
def EntryApartSaid : Prop := entryApartRow.holds Try.pinned (OpenSpec.ofChange entryApartSpec)

/-- ITS FALSE NEIGHBOUR: 'it returns false'. Refute it at one input. -/
def entryApartWrong : ChangeSpec := { name := "entryApart", fn := fun _ => fun
  | [d1, d2, d3, d4] => { results := [.lit (.bool false)], args := [d1, d2, d3, d4] }
  | _ => none }
def EntryApartWrongFalsely : Prop := entryApartRow.holds Try.pinned (OpenSpec.ofChange entryApartWrong)

/-- 'postilionlaw11.EntryRecords': WHATEVER THE INPUT: true; the input reads as it did. -/
def entryRecordsSpec : ChangeSpec := { name := "entryRecords", fn := fun _ => fun
  | [d1, d2] => { results := [.lit (.bool true)], args := [d1, d2] }
  | _ => none }
def entryRecordsRow : OpenClaim := { program := "ytjcdgbnbaiebdaa", sum := "29ff5fcf946b3ebf547b68903e6a2612dbca45904bb1483575fb8fa7e591faf1", func := "postilion/postilionlaw11.EntryRecords", spec := "entryRecords", unfollowed := true, recurses := true, apart := false }
def EntryRecordsSaid : Prop := entryRecordsRow.holds Try.pinned (OpenSpec.ofChange entryRecordsSpec)

/-- ITS FALSE NEIGHBOUR: 'it returns false'. Refute it at one input. -/
def entryRecordsWrong : ChangeSpec := { name := "entryRecords", fn := fun _ => fun
  | [d1, d2] => { results := [.lit (.bool false)], args := [d1, d2] }
  | _ => none }
def EntryRecordsWrongFalsely : Prop := entryRecordsRow.holds Try.pinned (OpenSpec.ofChange entryRecordsWrong)

/- THE SECOND FORM. 'bulk': how many values and letters a reading holds, each counted each time it is reached (what is shared counts as often as it is met; a slice's spare places count too). A statement '..UptoSaid' is the law's where the arguments, and the package variables that the reading takes, are together of bulk at most 1048576: NARROWER than '..Said'. Prove '..Said' where nothing that the law and all that it calls make is longer than what came in: it says more and counts as full. Else prove '..UptoSaid'. A law counts once. -/
mutual
def uptoBulk {H : Type} : DataW H → Nat
  | .lit (.string bytes) => bytes.length + 1
  | .lit _ => 1
  | .nil => 1
  | .ptr d => uptoBulk d + 1
  | .slice elems spare => uptoBulkAll elems + uptoBulkAll spare + 1
  | .agg parts => uptoBulkAll parts + 1
  | .iface _ d => uptoBulk d + 1
  | .map entries => uptoBulkEntries entries + 1
  | .held _ => 1
def uptoBulkAll {H : Type} : List (DataW H) → Nat
  | [] => 0
  | d :: r => uptoBulk d + uptoBulkAll r
def uptoBulkEntries {H : Type} : List (Lit × DataW H) → Nat
  | [] => 0
  | x :: r => uptoBulkEntry x + uptoBulkEntries r
def uptoBulkEntry {H : Type} : Lit × DataW H → Nat
  | (.string bytes, d) => bytes.length + uptoBulk d + 1
  | (_, d) => uptoBulk d + 1
 end
def uptoSmall : (H : Type) → List (DataW H) → Bool := fun _ ds => decide (uptoBulkAll ds ≤ 1048576)
def OpenSpec.upto (s : _root_.Go.ChangeSpec) : _root_.Go.OpenSpec := { _root_.Go.OpenSpec.ofChange s with cond := some uptoSmall }

/-- 'postilionlaw17.StageNames', WHERE WHAT IT READS IS OF BULK AT MOST 1048576: true; the input reads as it did. -/
def stageNamesUptoRow : OpenClaim := { program := "ytjcdgbnbaiebdaa", sum := "29ff5fcf946b3ebf547b68903e6a2612dbca45904bb1483575fb8fa7e591faf1", func := "postilion/postilionlaw17.StageNames", spec := "stageNames", unfollowed := true, recurses := true, apart := false, narrowed := true }
def StageNamesUptoSaid : Prop := stageNamesUptoRow.holds Try.pinned (OpenSpec.upto stageNamesSpec)

/-- 'postilionlaw17.StageStays', WHERE WHAT IT READS IS OF BULK AT MOST 1048576: true; the input reads as it did. -/
def stageStaysUptoRow : OpenClaim := { program := "ytjcdgbnbaiebdaa", sum := "29ff5fcf946b3ebf547b68903e6a2612dbca45904bb1483575fb8fa7e591faf1", func := "postilion/postilionlaw17.StageStays", spec := "stageStays", unfollowed := true, recurses := true, apart := false, narrowed := true }
def StageStaysUptoSaid : Prop := stageStaysUptoRow.holds Try.pinned (OpenSpec.upto stageStaysSpec)

/-- 'postilionlaw17.StageHolds', WHERE WHAT IT READS IS OF BULK AT MOST 1048576: true; the input reads as it did. -/
def stageHoldsUptoRow : OpenClaim := { program := "ytjcdgbnbaiebdaa", sum := "29ff5fcf946b3ebf547b68903e6a2612dbca45904bb1483575fb8fa7e591faf1", func := "postilion/postilionlaw17.StageHolds", spec := "stageHolds", unfollowed := true, recurses := true, apart := false, narrowed := true }
def StageHoldsUptoSaid : Prop := stageHoldsUptoRow.holds Try.pinned (OpenSpec.upto stageHoldsSpec)

/-- 'postilionlaw17.StageAlone', WHERE WHAT IT READS IS OF BULK AT MOST 1048576: true; the input reads as it did. -/
def stageAloneUptoRow : OpenClaim := { program := "ytjcdgbnbaiebdaa", sum := "29ff5fcf946b3ebf547b68903e6a2612dbca45904bb1483575fb8fa7e591faf1", func := "postilion/postilionlaw17.StageAlone", spec := "stageAlone", unfollowed := true, recurses := true, apart := false, narrowed := true }
def StageAloneUptoSaid : Prop := stageAloneUptoRow.holds Try.pinned (OpenSpec.upto stageAloneSpec)

/-- 'postilionlaw17.StageAsks', WHERE WHAT IT READS IS OF BULK AT MOST 1048576: true; the input reads as it did. -/
def stageAsksUptoRow : OpenClaim := { program := "ytjcdgbnbaiebdaa", sum := "29ff5fcf946b3ebf547b68903e6a2612dbca45904bb1483575fb8fa7e591faf1", func := "postilion/postilionlaw17.StageAsks", spec := "stageAsks", unfollowed := true, recurses := true, apart := false, narrowed := true }
def StageAsksUptoSaid : Prop := stageAsksUptoRow.holds Try.pinned (OpenSpec.upto stageAsksSpec)

/-- 'postilionlaw11.EntryNames', WHERE WHAT IT READS IS OF BULK AT MOST 1048576: true; the input reads as it did. -/
def entryNamesUptoRow : OpenClaim := { program := "ytjcdgbnbaiebdaa", sum := "29ff5fcf946b3ebf547b68903e6a2612dbca45904bb1483575fb8fa7e591faf1", func := "postilion/postilionlaw11.EntryNames", spec := "entryNames", unfollowed := true, recurses := true, apart := false, narrowed := true }
def EntryNamesUptoSaid : Prop := entryNamesUptoRow.holds Try.pinned (OpenSpec.upto entryNamesSpec)

/-- 'postilionlaw11.EntryBack', WHERE WHAT IT READS IS OF BULK AT MOST 1048576: true; the input reads as it did. -/
def entryBackUptoRow : OpenClaim := { program := "ytjcdgbnbaiebdaa", sum := "29ff5fcf946b3ebf547b68903e6a2612dbca45904bb1483575fb8fa7e591faf1", func := "postilion/postilionlaw11.EntryBack", spec := "entryBack", unfollowed := true, recurses := true, apart := false, narrowed := true }
def EntryBackUptoSaid : Prop := entryBackUptoRow.holds Try.pinned (OpenSpec.upto entryBackSpec)

/-- 'postilionlaw11.EntryOnce', WHERE WHAT IT READS IS OF BULK AT MOST 1048576: true; the input reads as it did. -/
def entryOnceUptoRow : OpenClaim := { program := "ytjcdgbnbaiebdaa", sum := "29ff5fcf946b3ebf547b68903e6a2612dbca45904bb1483575fb8fa7e591faf1", func := "postilion/postilionlaw11.EntryOnce", spec := "entryOnce", unfollowed := true, recurses := true, apart := false, narrowed := true }
def EntryOnceUptoSaid : Prop := entryOnceUptoRow.holds Try.pinned (OpenSpec.upto entryOnceSpec)

/-- 'postilionlaw11.EntryLess', WHERE WHAT IT READS IS OF BULK AT MOST 1048576: true; the input reads as it did. -/
def entryLessUptoRow : OpenClaim := { program := "ytjcdgbnbaiebdaa", sum := "29ff5fcf946b3ebf547b68903e6a2612dbca45904bb1483575fb8fa7e591faf1", func := "postilion/postilionlaw11.EntryLess", spec := "entryLess", unfollowed := true, recurses := true, apart := false, narrowed := true }
def EntryLessUptoSaid : Prop := entryLessUptoRow.holds Try.pinned (OpenSpec.upto entryLessSpec)

/-- 'postilionlaw11.EntryApart', WHERE WHAT IT READS IS OF BULK AT MOST 1048576: true; the input reads as it did. -/
def entryApartUptoRow : OpenClaim := { program := "ytjcdgbnbaiebdaa", sum := "29ff5fcf946b3ebf547b68903e6a2612dbca45904bb1483575fb8fa7e591faf1", func := "postilion/postilionlaw11.EntryApart", spec := "entryApart", unfollowed := true, recurses := true, apart := false, narrowed := true }
def EntryApartUptoSaid : Prop := entryApartUptoRow.holds Try.pinned (OpenSpec.upto entryApartSpec)

/-- 'postilionlaw11.EntryRecords', WHERE WHAT IT READS IS OF BULK AT MOST 1048576: true; the input reads as it did. -/
def entryRecordsUptoRow : OpenClaim := { program := "ytjcdgbnbaiebdaa", sum := "29ff5fcf946b3ebf547b68903e6a2612dbca45904bb1483575fb8fa7e591faf1", func := "postilion/postilionlaw11.EntryRecords", spec := "entryRecords", unfollowed := true, recurses := true, apart := false, narrowed := true }
def EntryRecordsUptoSaid : Prop := entryRecordsUptoRow.holds Try.pinned (OpenSpec.upto entryRecordsSpec)

end Rows
end Go.Proofs.Ytjcdgbnbaiebdaa

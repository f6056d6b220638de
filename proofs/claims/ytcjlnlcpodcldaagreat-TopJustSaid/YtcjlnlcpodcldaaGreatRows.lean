/-
  No cell of these rows narrows 'for every input' (looked for: loops, veiled, ifaces, maps, wideKeys, modest, calm, conditions, laid).
  DERIVED. THE GIVEN ROWS OF THIS SEAT. 6 by the template 'for every input the law returns true; each argument reads behind the call as it read before'; 0 by the template 'total and deterministic' (their statements: YtcjlnlcpodcldaaGreatTotals.lean).
  GIVEN WITH THE SEED: the statements are not yours to turn. If you find one false, say at which input.
  Laid BY PROGRAM, IN A SANDBOX (cutbox-rows.mjs): the forced cells as the released guide's own fill.sh prints them over the translation 097dc5394637a553… (all of the seat's roots in one cut). By AI agents, Wed Nov 11 2026. No macro, syntax, notation, axiom, sorry.
-/
import Derived.Test.YtcjlnlcpodcldaaGreatChecked
import GoSem.Claim
import GoSem.ClaimJoined
import GoSem.ClaimMapViews
import Derived.JoinedTies
import Derived.KernelRfl
namespace Go.Proofs.YtcjlnlcpodcldaaGreat
/- THE CELL 'sum', in the pinned program and in every row, IS THE sha256 OF THE DUMP (.gsa) THAT YtcjlnlcpodcldaaGreatProg.lean LOADS. Nothing in Lean hashes anything: it is a label: what it is worth is what the hold of that sum in a sandbox is worth. -/
noncomputable def Tryz.pinned : Pinned := { name := "ytcjlnlcpodcldaagreat", sum := "097dc5394637a553ee95a93ee7d3b4e6fd8fb81440d7f4682d5957f646beff03", checked := Tryz.checked }
namespace Rows
def none {H : Type} : Left H := { results := [], args := [] }

/-- 'postilionlaw22.ScriptNames': WHATEVER THE INPUT: true; the input reads as it did. -/
def scriptNamesSpec : ChangeSpec := { name := "scriptNames", fn := fun _ => fun
  | [] => { results := [.lit (.bool true)], args := [] }
  | _ => none }
def scriptNamesRow : OpenClaim := { program := "ytcjlnlcpodcldaagreat", sum := "097dc5394637a553ee95a93ee7d3b4e6fd8fb81440d7f4682d5957f646beff03", func := "postilion/postilionlaw22.ScriptNames", spec := "scriptNames", unfollowed := true, recurses := true, plainKeys := false, apart := false }
def ScriptNamesSaid : Prop := scriptNamesRow.holds Tryz.pinned (OpenSpec.ofChange scriptNamesSpec)

/-- ITS FALSE NEIGHBOUR: 'it returns false'. Refute it at one input. -/
def scriptNamesWrong : ChangeSpec := { name := "scriptNames", fn := fun _ => fun
  | [] => { results := [.lit (.bool false)], args := [] }
  | _ => none }
def ScriptNamesWrongFalsely : Prop := scriptNamesRow.holds Tryz.pinned (OpenSpec.ofChange scriptNamesWrong)

/-- 'postilionlaw22.ScriptBegins': WHATEVER THE INPUT: true; the input reads as it did. -/
def scriptBeginsSpec : ChangeSpec := { name := "scriptBegins", fn := fun _ => fun
  | [d1, d2, d3, d4, d5] => { results := [.lit (.bool true)], args := [d1, d2, d3, d4, d5] }
  | _ => none }
def scriptBeginsRow : OpenClaim := { program := "ytcjlnlcpodcldaagreat", sum := "097dc5394637a553ee95a93ee7d3b4e6fd8fb81440d7f4682d5957f646beff03", func := "postilion/postilionlaw22.ScriptBegins", spec := "scriptBegins", unfollowed := true, recurses := true, plainKeys := false, apart := false }
def ScriptBeginsSaid : Prop := scriptBeginsRow.holds Tryz.pinned (OpenSpec.ofChange scriptBeginsSpec)

/-- ITS FALSE NEIGHBOUR: 'it returns false'. Refute it at one input. -/
def scriptBeginsWrong : ChangeSpec := { name := "scriptBegins", fn := fun _ => fun
  | [d1, d2, d3, d4, d5] => { results := [.lit (.bool false)], args := [d1, d2, d3, d4, d5] }
  | _ => none }
def ScriptBeginsWrongFalsely : Prop := scriptBeginsRow.holds Tryz.pinned (OpenSpec.ofChange scriptBeginsWrong)

/-- 'postilionlaw22.ScriptLooks': WHATEVER THE INPUT: true; the input reads as it did. -/
def scriptLooksSpec : ChangeSpec := { name := "scriptLooks", fn := fun _ => fun
  | [d1, d2, d3, d4, d5, d6] => { results := [.lit (.bool true)], args := [d1, d2, d3, d4, d5, d6] }
  | _ => none }
def scriptLooksRow : OpenClaim := { program := "ytcjlnlcpodcldaagreat", sum := "097dc5394637a553ee95a93ee7d3b4e6fd8fb81440d7f4682d5957f646beff03", func := "postilion/postilionlaw22.ScriptLooks", spec := "scriptLooks", unfollowed := true, recurses := true, plainKeys := false, apart := false }
def ScriptLooksSaid : Prop := scriptLooksRow.holds Tryz.pinned (OpenSpec.ofChange scriptLooksSpec)

/-- ITS FALSE NEIGHBOUR: 'it returns false'. Refute it at one input. -/
def scriptLooksWrong : ChangeSpec := { name := "scriptLooks", fn := fun _ => fun
  | [d1, d2, d3, d4, d5, d6] => { results := [.lit (.bool false)], args := [d1, d2, d3, d4, d5, d6] }
  | _ => none }
def ScriptLooksWrongFalsely : Prop := scriptLooksRow.holds Tryz.pinned (OpenSpec.ofChange scriptLooksWrong)

/-- 'postilionlaw22.ScriptEmpty': WHATEVER THE INPUT: true; the input reads as it did. -/
def scriptEmptySpec : ChangeSpec := { name := "scriptEmpty", fn := fun _ => fun
  | [d1, d2, d3] => { results := [.lit (.bool true)], args := [d1, d2, d3] }
  | _ => none }
def scriptEmptyRow : OpenClaim := { program := "ytcjlnlcpodcldaagreat", sum := "097dc5394637a553ee95a93ee7d3b4e6fd8fb81440d7f4682d5957f646beff03", func := "postilion/postilionlaw22.ScriptEmpty", spec := "scriptEmpty", unfollowed := true, recurses := true, plainKeys := false, apart := false }
def ScriptEmptySaid : Prop := scriptEmptyRow.holds Tryz.pinned (OpenSpec.ofChange scriptEmptySpec)

/-- ITS FALSE NEIGHBOUR: 'it returns false'. Refute it at one input. -/
def scriptEmptyWrong : ChangeSpec := { name := "scriptEmpty", fn := fun _ => fun
  | [d1, d2, d3] => { results := [.lit (.bool false)], args := [d1, d2, d3] }
  | _ => none }
def ScriptEmptyWrongFalsely : Prop := scriptEmptyRow.holds Tryz.pinned (OpenSpec.ofChange scriptEmptyWrong)

/-- 'postiliontop.TopJust': WHATEVER THE INPUT: true; the input reads as it did. -/
def topJustSpec : ChangeSpec := { name := "topJust", fn := fun _ => fun
  | [d1, d2, d3] => { results := [.lit (.bool true)], args := [d1, d2, d3] }
  | _ => none }
def topJustRow : OpenClaim := { program := "ytcjlnlcpodcldaagreat", sum := "097dc5394637a553ee95a93ee7d3b4e6fd8fb81440d7f4682d5957f646beff03", func := "postilion/postiliontop.TopJust", spec := "topJust", unfollowed := true, recurses := true, plainKeys := false, apart := false }
def TopJustSaid : Prop := topJustRow.holds Tryz.pinned (OpenSpec.ofChange topJustSpec)

/-- ITS FALSE NEIGHBOUR: 'it returns false'. Refute it at one input. -/
def topJustWrong : ChangeSpec := { name := "topJust", fn := fun _ => fun
  | [d1, d2, d3] => { results := [.lit (.bool false)], args := [d1, d2, d3] }
  | _ => none }
def TopJustWrongFalsely : Prop := topJustRow.holds Tryz.pinned (OpenSpec.ofChange topJustWrong)

/-- 'postiliontop.TopSame': WHATEVER THE INPUT: true; the input reads as it did. -/
def topSameSpec : ChangeSpec := { name := "topSame", fn := fun _ => fun
  | [d1, d2, d3, d4] => { results := [.lit (.bool true)], args := [d1, d2, d3, d4] }
  | _ => none }
def topSameRow : OpenClaim := { program := "ytcjlnlcpodcldaagreat", sum := "097dc5394637a553ee95a93ee7d3b4e6fd8fb81440d7f4682d5957f646beff03", func := "postilion/postiliontop.TopSame", spec := "topSame", unfollowed := true, recurses := true, plainKeys := false, apart := false }
def TopSameSaid : Prop := topSameRow.holds Tryz.pinned (OpenSpec.ofChange topSameSpec)

/-- ITS FALSE NEIGHBOUR: 'it returns false'. Refute it at one input. -/
def topSameWrong : ChangeSpec := { name := "topSame", fn := fun _ => fun
  | [d1, d2, d3, d4] => { results := [.lit (.bool false)], args := [d1, d2, d3, d4] }
  | _ => none }
def TopSameWrongFalsely : Prop := topSameRow.holds Tryz.pinned (OpenSpec.ofChange topSameWrong)

/- THE SECOND FORM. 'bulk': how many values and letters a reading holds, each counted each time it is reached (what is shared counts as often as it is met; a slice's spare places count too). A statement '..UptoSaid' is the law's where the arguments, and the package variables that the reading takes, are together of bulk at most 1048576: NARROWER than '..Said'. Prove '..Said' where nothing that the law and all that it calls make is longer than what came in: it says more and counts as full. Else prove '..UptoSaid'. A law counts once. -/
mutual
def uptoBulk {H : Type} : DataW H → Nat
  | .lit (.string bytes) => bytes.length + 1
  | .lit _ => 1
  | .nil => 1
  | .ptr d => uptoBulk d + 1
  | .slice elems spare => uptoBulkAll elems + uptoBulkAll spare + 1
  | .agg parts => uptoBulkAll parts + 1
  | .iface _ d => uptoBulk d + 1
  | .map entries => uptoBulkEntries entries + 1
  | .held _ => 1
def uptoBulkAll {H : Type} : List (DataW H) → Nat
  | [] => 0
  | d :: r => uptoBulk d + uptoBulkAll r
def uptoBulkEntries {H : Type} : List (Lit × DataW H) → Nat
  | [] => 0
  | x :: r => uptoBulkEntry x + uptoBulkEntries r
def uptoBulkEntry {H : Type} : Lit × DataW H → Nat
  | (.string bytes, d) => bytes.length + uptoBulk d + 1
  | (_, d) => uptoBulk d + 1
 end
def uptoSmall : (H : Type) → List (DataW H) → Bool := fun _ ds => decide (uptoBulkAll ds ≤ 1048576)
def OpenSpec.upto (s : _root_.Go.ChangeSpec) : _root_.Go.OpenSpec := { _root_.Go.OpenSpec.ofChange s with cond := some uptoSmall }

/-- 'postilionlaw22.ScriptNames', WHERE WHAT IT READS IS OF BULK AT MOST 1048576: true; the input reads as it did. -/
def scriptNamesUptoRow : OpenClaim := { program := "ytcjlnlcpodcldaagreat", sum := "097dc5394637a553ee95a93ee7d3b4e6fd8fb81440d7f4682d5957f646beff03", func := "postilion/postilionlaw22.ScriptNames", spec := "scriptNames", unfollowed := true, recurses := true, plainKeys := false, apart := false, narrowed := true }
def ScriptNamesUptoSaid : Prop := scriptNamesUptoRow.holds Tryz.pinned (OpenSpec.upto scriptNamesSpec)

/-- 'postilionlaw22.ScriptBegins', WHERE WHAT IT READS IS OF BULK AT MOST 1048576: true; the input reads as it did. -/
def scriptBeginsUptoRow : OpenClaim := { program := "ytcjlnlcpodcldaagreat", sum := "097dc5394637a553ee95a93ee7d3b4e6fd8fb81440d7f4682d5957f646beff03", func := "postilion/postilionlaw22.ScriptBegins", spec := "scriptBegins", unfollowed := true, recurses := true, plainKeys := false, apart := false, narrowed := true }
def ScriptBeginsUptoSaid : Prop := scriptBeginsUptoRow.holds Tryz.pinned (OpenSpec.upto scriptBeginsSpec)

/-- 'postilionlaw22.ScriptLooks', WHERE WHAT IT READS IS OF BULK AT MOST 1048576: true; the input reads as it did. -/
def scriptLooksUptoRow : OpenClaim := { program := "ytcjlnlcpodcldaagreat", sum := "097dc5394637a553ee95a93ee7d3b4e6fd8fb81440d7f4682d5957f646beff03", func := "postilion/postilionlaw22.ScriptLooks", spec := "scriptLooks", unfollowed := true, recurses := true, plainKeys := false, apart := false, narrowed := true }
def ScriptLooksUptoSaid : Prop := scriptLooksUptoRow.holds Tryz.pinned (OpenSpec.upto scriptLooksSpec)

/-- 'postilionlaw22.ScriptEmpty', WHERE WHAT IT READS IS OF BULK AT MOST 1048576: true; the input reads as it did. -/
def scriptEmptyUptoRow : OpenClaim := { program := "ytcjlnlcpodcldaagreat", sum := "097dc5394637a553ee95a93ee7d3b4e6fd8fb81440d7f4682d5957f646beff03", func := "postilion/postilionlaw22.ScriptEmpty", spec := "scriptEmpty", unfollowed := true, recurses := true, plainKeys := false, apart := false, narrowed := true }
def ScriptEmptyUptoSaid : Prop := scriptEmptyUptoRow.holds Tryz.pinned (OpenSpec.upto scriptEmptySpec)

/-- 'postiliontop.TopJust', WHERE WHAT IT READS IS OF BULK AT MOST 1048576: true; the input reads as it did. -/
def topJustUptoRow : OpenClaim := { program := "ytcjlnlcpodcldaagreat", sum := "097dc5394637a553ee95a93ee7d3b4e6fd8fb81440d7f4682d5957f646beff03", func := "postilion/postiliontop.TopJust", spec := "topJust", unfollowed := true, recurses := true, plainKeys := false, apart := false, narrowed := true }
def TopJustUptoSaid : Prop := topJustUptoRow.holds Tryz.pinned (OpenSpec.upto topJustSpec)

/-- 'postiliontop.TopSame', WHERE WHAT IT READS IS OF BULK AT MOST 1048576: true; the input reads as it did. -/
def topSameUptoRow : OpenClaim := { program := "ytcjlnlcpodcldaagreat", sum := "097dc5394637a553ee95a93ee7d3b4e6fd8fb81440d7f4682d5957f646beff03", func := "postilion/postiliontop.TopSame", spec := "topSame", unfollowed := true, recurses := true, plainKeys := false, apart := false, narrowed := true }
def TopSameUptoSaid : Prop := topSameUptoRow.holds Tryz.pinned (OpenSpec.upto topSameSpec)

end Rows
end Go.Proofs.YtcjlnlcpodcldaaGreat

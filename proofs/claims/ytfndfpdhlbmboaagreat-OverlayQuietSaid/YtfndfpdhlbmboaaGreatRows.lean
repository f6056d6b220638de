/-
  No cell of these rows narrows 'for every input' (looked for: loops, veiled, ifaces, maps, wideKeys, modest, calm, conditions, laid).
  DERIVED. THE GIVEN ROWS OF THIS SEAT. 5 by the template 'for every input the law returns true; each argument reads behind the call as it read before'; 0 by the template 'total and deterministic' (their statements: YtfndfpdhlbmboaaGreatTotals.lean).
  GIVEN WITH THE SEED: the statements are not yours to turn. If you find one false, say at which input.
  Laid BY PROGRAM, IN A SANDBOX (cutbox-rows.mjs): the forced cells as the released guide's own fill.sh prints them over the translation 366a641a831458a3… (all of the seat's roots in one cut). By AI agents, Wed Nov 11 2026. No macro, syntax, notation, axiom, sorry.
-/
import Derived.Test.YtfndfpdhlbmboaaGreatChecked
import GoSem.Claim
import GoSem.ClaimJoined
import GoSem.ClaimMapViews
import Derived.JoinedTies
import Derived.KernelRfl
namespace Go.Proofs.YtfndfpdhlbmboaaGreat
/- THE CELL 'sum', in the pinned program and in every row, IS THE sha256 OF THE DUMP (.gsa) THAT YtfndfpdhlbmboaaGreatProg.lean LOADS. Nothing in Lean hashes anything: it is a label: what it is worth is what the hold of that sum in a sandbox is worth. -/
noncomputable def Tryz.pinned : Pinned := { name := "ytfndfpdhlbmboaagreat", sum := "366a641a831458a3d82ea3dacd7cdd7612004ccba9cbb76eb6af9b85e51b18b8", checked := Tryz.checked }
namespace Rows
def none {H : Type} : Left H := { results := [], args := [] }

/-- 'postilionlaw21.OverlayNames': WHATEVER THE INPUT: true; the input reads as it did. -/
def overlayNamesSpec : ChangeSpec := { name := "overlayNames", fn := fun _ => fun
  | [] => { results := [.lit (.bool true)], args := [] }
  | _ => none }
def overlayNamesRow : OpenClaim := { program := "ytfndfpdhlbmboaagreat", sum := "366a641a831458a3d82ea3dacd7cdd7612004ccba9cbb76eb6af9b85e51b18b8", func := "postilion/postilionlaw21.OverlayNames", spec := "overlayNames", unfollowed := true, recurses := true, plainKeys := false, apart := false }
def OverlayNamesSaid : Prop := overlayNamesRow.holds Tryz.pinned (OpenSpec.ofChange overlayNamesSpec)

/-- ITS FALSE NEIGHBOUR: 'it returns false'. Refute it at one input. -/
def overlayNamesWrong : ChangeSpec := { name := "overlayNames", fn := fun _ => fun
  | [] => { results := [.lit (.bool false)], args := [] }
  | _ => none }
def OverlayNamesWrongFalsely : Prop := overlayNamesRow.holds Tryz.pinned (OpenSpec.ofChange overlayNamesWrong)

/-- 'postilionlaw21.OverlayDown': WHATEVER THE INPUT: true; the input reads as it did. -/
def overlayDownSpec : ChangeSpec := { name := "overlayDown", fn := fun _ => fun
  | [d1, d2, d3, d4, d5] => { results := [.lit (.bool true)], args := [d1, d2, d3, d4, d5] }
  | _ => none }
def overlayDownRow : OpenClaim := { program := "ytfndfpdhlbmboaagreat", sum := "366a641a831458a3d82ea3dacd7cdd7612004ccba9cbb76eb6af9b85e51b18b8", func := "postilion/postilionlaw21.OverlayDown", spec := "overlayDown", unfollowed := true, recurses := true, plainKeys := false, apart := false }
def OverlayDownSaid : Prop := overlayDownRow.holds Tryz.pinned (OpenSpec.ofChange overlayDownSpec)

/-- ITS FALSE NEIGHBOUR: 'it returns false'. Refute it at one input. -/
def overlayDownWrong : ChangeSpec := { name := "overlayDown", fn := fun _ => fun
  | [d1, d2, d3, d4, d5] => { results := [.lit (.bool false)], args := [d1, d2, d3, d4, d5] }
  | _ => none }
def OverlayDownWrongFalsely : Prop := overlayDownRow.holds Tryz.pinned (OpenSpec.ofChange overlayDownWrong)

/-- 'postilionlaw21.OverlayQuiet': WHATEVER THE INPUT: true; the input reads as it did. -/
def overlayQuietSpec : ChangeSpec := { name := "overlayQuiet", fn := fun _ => fun
  | [d1, d2, d3] => { results := [.lit (.bool true)], args := [d1, d2, d3] }
  | _ => none }
def overlayQuietRow : OpenClaim := { program := "ytfndfpdhlbmboaagreat", sum := "366a641a831458a3d82ea3dacd7cdd7612004ccba9cbb76eb6af9b85e51b18b8", func := "postilion/postilionlaw21.OverlayQuiet", spec := "overlayQuiet", unfollowed := true, recurses := true, plainKeys := false, apart := false }
def OverlayQuietSaid : Prop := overlayQuietRow.holds Tryz.pinned (OpenSpec.ofChange overlayQuietSpec)

/-- ITS FALSE NEIGHBOUR: 'it returns false'. Refute it at one input. -/
def overlayQuietWrong : ChangeSpec := { name := "overlayQuiet", fn := fun _ => fun
  | [d1, d2, d3] => { results := [.lit (.bool false)], args := [d1, d2, d3] }
  | _ => none }
def OverlayQuietWrongFalsely : Prop := overlayQuietRow.holds Tryz.pinned (OpenSpec.ofChange overlayQuietWrong)

/-- 'postilionlaw21.OverlayOne': WHATEVER THE INPUT: true; the input reads as it did. -/
def overlayOneSpec : ChangeSpec := { name := "overlayOne", fn := fun _ => fun
  | [d1, d2, d3] => { results := [.lit (.bool true)], args := [d1, d2, d3] }
  | _ => none }
def overlayOneRow : OpenClaim := { program := "ytfndfpdhlbmboaagreat", sum := "366a641a831458a3d82ea3dacd7cdd7612004ccba9cbb76eb6af9b85e51b18b8", func := "postilion/postilionlaw21.OverlayOne", spec := "overlayOne", unfollowed := true, recurses := true, plainKeys := false, apart := false }
def OverlayOneSaid : Prop := overlayOneRow.holds Tryz.pinned (OpenSpec.ofChange overlayOneSpec)

/-- ITS FALSE NEIGHBOUR: 'it returns false'. Refute it at one input. -/
def overlayOneWrong : ChangeSpec := { name := "overlayOne", fn := fun _ => fun
  | [d1, d2, d3] => { results := [.lit (.bool false)], args := [d1, d2, d3] }
  | _ => none }
def OverlayOneWrongFalsely : Prop := overlayOneRow.holds Tryz.pinned (OpenSpec.ofChange overlayOneWrong)

/-- 'postilionlaw21.OverlayNil': WHATEVER THE INPUT: true; the input reads as it did. -/
def overlayNilSpec : ChangeSpec := { name := "overlayNil", fn := fun _ => fun
  | [d1, d2] => { results := [.lit (.bool true)], args := [d1, d2] }
  | _ => none }
def overlayNilRow : OpenClaim := { program := "ytfndfpdhlbmboaagreat", sum := "366a641a831458a3d82ea3dacd7cdd7612004ccba9cbb76eb6af9b85e51b18b8", func := "postilion/postilionlaw21.OverlayNil", spec := "overlayNil", unfollowed := true, recurses := true, plainKeys := false, apart := false }
def OverlayNilSaid : Prop := overlayNilRow.holds Tryz.pinned (OpenSpec.ofChange overlayNilSpec)

/-- ITS FALSE NEIGHBOUR: 'it returns false'. Refute it at one input. -/
def overlayNilWrong : ChangeSpec := { name := "overlayNil", fn := fun _ => fun
  | [d1, d2] => { results := [.lit (.bool false)], args := [d1, d2] }
  | _ => none }
def OverlayNilWrongFalsely : Prop := overlayNilRow.holds Tryz.pinned (OpenSpec.ofChange overlayNilWrong)

/- THE SECOND FORM. 'bulk': how many values and letters a reading holds, each counted each time it is reached (what is shared counts as often as it is met; a slice's spare places count too). A statement '..UptoSaid' is the law's where the arguments, and the package variables that the reading takes, are together of bulk at most 1048576: NARROWER than '..Said'. Prove '..Said' where nothing that the law and all that it calls make is longer than what came in: it says more and counts as full. Else prove '..UptoSaid'. A law counts once. -/
mutual
def uptoBulk {H : Type} : DataW H → Nat
  | .lit (.string bytes) => bytes.length + 1
  | .lit _ => 1
  | .nil => 1
  | .ptr d => uptoBulk d + 1
  | .slice elems spare => uptoBulkAll elems + uptoBulkAll spare + 1
  | .agg parts => uptoBulkAll parts + 1
  | .iface _ d => uptoBulk d + 1
  | .map entries => uptoBulkEntries entries + 1
  | .held _ => 1
def uptoBulkAll {H : Type} : List (DataW H) → Nat
  | [] => 0
  | d :: r => uptoBulk d + uptoBulkAll r
def uptoBulkEntries {H : Type} : List (Lit × DataW H) → Nat
  | [] => 0
  | x :: r => uptoBulkEntry x + uptoBulkEntries r
def uptoBulkEntry {H : Type} : Lit × DataW H → Nat
  | (.string bytes, d) => bytes.length + uptoBulk d + 1
  | (_, d) => uptoBulk d + 1
 end
def uptoSmall : (H : Type) → List (DataW H) → Bool := fun _ ds => decide (uptoBulkAll ds ≤ 1048576)
def OpenSpec.upto (s : _root_.Go.ChangeSpec) : _root_.Go.OpenSpec := { _root_.Go.OpenSpec.ofChange s with cond := some uptoSmall }

/-- 'postilionlaw21.OverlayNames', WHERE WHAT IT READS IS OF BULK AT MOST 1048576: true; the input reads as it did. -/
def overlayNamesUptoRow : OpenClaim := { program := "ytfndfpdhlbmboaagreat", sum := "366a641a831458a3d82ea3dacd7cdd7612004ccba9cbb76eb6af9b85e51b18b8", func := "postilion/postilionlaw21.OverlayNames", spec := "overlayNames", unfollowed := true, recurses := true, plainKeys := false, apart := false, narrowed := true }
def OverlayNamesUptoSaid : Prop := overlayNamesUptoRow.holds Tryz.pinned (OpenSpec.upto overlayNamesSpec)

/-- 'postilionlaw21.OverlayDown', WHERE WHAT IT READS IS OF BULK AT MOST 1048576: true; the input reads as it did. -/
def overlayDownUptoRow : OpenClaim := { program := "ytfndfpdhlbmboaagreat", sum := "366a641a831458a3d82ea3dacd7cdd7612004ccba9cbb76eb6af9b85e51b18b8", func := "postilion/postilionlaw21.OverlayDown", spec := "overlayDown", unfollowed := true, recurses := true, plainKeys := false, apart := false, narrowed := true }
def OverlayDownUptoSaid : Prop := overlayDownUptoRow.holds Tryz.pinned (OpenSpec.upto overlayDownSpec)

/-- 'postilionlaw21.OverlayQuiet', WHERE WHAT IT READS IS OF BULK AT MOST 1048576: true; the input reads as it did. -/
def overlayQuietUptoRow : OpenClaim := { program := "ytfndfpdhlbmboaagreat", sum := "366a641a831458a3d82ea3dacd7cdd7612004ccba9cbb76eb6af9b85e51b18b8", func := "postilion/postilionlaw21.OverlayQuiet", spec := "overlayQuiet", unfollowed := true, recurses := true, plainKeys := false, apart := false, narrowed := true }
def OverlayQuietUptoSaid : Prop := overlayQuietUptoRow.holds Tryz.pinned (OpenSpec.upto overlayQuietSpec)

/-- 'postilionlaw21.OverlayOne', WHERE WHAT IT READS IS OF BULK AT MOST 1048576: true; the input reads as it did. -/
def overlayOneUptoRow : OpenClaim := { program := "ytfndfpdhlbmboaagreat", sum := "366a641a831458a3d82ea3dacd7cdd7612004ccba9cbb76eb6af9b85e51b18b8", func := "postilion/postilionlaw21.OverlayOne", spec := "overlayOne", unfollowed := true, recurses := true, plainKeys := false, apart := false, narrowed := true }
def OverlayOneUptoSaid : Prop := overlayOneUptoRow.holds Tryz.pinned (OpenSpec.upto overlayOneSpec)

/-- 'postilionlaw21.OverlayNil', WHERE WHAT IT READS IS OF BULK AT MOST 1048576: true; the input reads as it did. -/
def overlayNilUptoRow : OpenClaim := { program := "ytfndfpdhlbmboaagreat", sum := "366a641a831458a3d82ea3dacd7cdd7612004ccba9cbb76eb6af9b85e51b18b8", func := "postilion/postilionlaw21.OverlayNil", spec := "overlayNil", unfollowed := true, recurses := true, plainKeys := false, apart := false, narrowed := true }
def OverlayNilUptoSaid : Prop := overlayNilUptoRow.holds Tryz.pinned (OpenSpec.upto overlayNilSpec)

end Rows
end Go.Proofs.YtfndfpdhlbmboaaGreat

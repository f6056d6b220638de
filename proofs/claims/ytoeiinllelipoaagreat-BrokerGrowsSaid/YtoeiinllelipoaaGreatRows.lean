/-
  No cell of these rows narrows 'for every input' (looked for: loops, veiled, ifaces, maps, wideKeys, modest, calm, conditions, laid).
  DERIVED. THE GIVEN ROWS OF THIS SEAT. 3 by the template 'for every input the law returns true; each argument reads behind the call as it read before'; 0 by the template 'total and deterministic' (their statements: YtoeiinllelipoaaGreatTotals.lean).
  GIVEN WITH THE SEED: the statements are not yours to turn. If you find one false, say at which input.
  Laid BY PROGRAM, IN A SANDBOX (cutbox-rows.mjs): the forced cells as the released guide's own fill.sh prints them over the translation c22c91b53f598e32… (all of the seat's roots in one cut). By AI agents, Wed Nov 11 2026. No macro, syntax, notation, axiom, sorry.
-/
import Derived.Test.YtoeiinllelipoaaGreatChecked
import GoSem.Claim
import GoSem.ClaimJoined
import GoSem.ClaimMapViews
import Derived.JoinedTies
import Derived.KernelRfl
namespace Go.Proofs.YtoeiinllelipoaaGreat
/- THE CELL 'sum', in the pinned program and in every row, IS THE sha256 OF THE DUMP (.gsa) THAT YtoeiinllelipoaaGreatProg.lean LOADS. Nothing in Lean hashes anything: it is a label: what it is worth is what the hold of that sum in a sandbox is worth. -/
noncomputable def Tryz.pinned : Pinned := { name := "ytoeiinllelipoaagreat", sum := "c22c91b53f598e32b484dbadba351763f1e3ece1b7767a02dea8e8355d8a4da4", checked := Tryz.checked }
namespace Rows
def none {H : Type} : Left H := { results := [], args := [] }

/-- 'postilionlaw20.BrokerIDs': WHATEVER THE INPUT: true; the input reads as it did. -/
def brokerIDsSpec : ChangeSpec := { name := "brokerIDs", fn := fun _ => fun
  | [d1, d2, d3, d4] => { results := [.lit (.bool true)], args := [d1, d2, d3, d4] }
  | _ => none }
def brokerIDsRow : OpenClaim := { program := "ytoeiinllelipoaagreat", sum := "c22c91b53f598e32b484dbadba351763f1e3ece1b7767a02dea8e8355d8a4da4", func := "postilion/postilionlaw20.BrokerIDs", spec := "brokerIDs", unfollowed := true, recurses := true, plainKeys := false, apart := false }
def BrokerIDsSaid : Prop := brokerIDsRow.holds Tryz.pinned (OpenSpec.ofChange brokerIDsSpec)

/-- ITS FALSE NEIGHBOUR: 'it returns false'. Refute it at one input. -/
def brokerIDsWrong : ChangeSpec := { name := "brokerIDs", fn := fun _ => fun
  | [d1, d2, d3, d4] => { results := [.lit (.bool false)], args := [d1, d2, d3, d4] }
  | _ => none }
def BrokerIDsWrongFalsely : Prop := brokerIDsRow.holds Tryz.pinned (OpenSpec.ofChange brokerIDsWrong)

/-- 'postilionlaw20.BrokerGrows': WHATEVER THE INPUT: true; the input reads as it did. -/
def brokerGrowsSpec : ChangeSpec := { name := "brokerGrows", fn := fun _ => fun
  | [d1, d2, d3, d4, d5, d6] => { results := [.lit (.bool true)], args := [d1, d2, d3, d4, d5, d6] }
  | _ => none }
def brokerGrowsRow : OpenClaim := { program := "ytoeiinllelipoaagreat", sum := "c22c91b53f598e32b484dbadba351763f1e3ece1b7767a02dea8e8355d8a4da4", func := "postilion/postilionlaw20.BrokerGrows", spec := "brokerGrows", unfollowed := true, recurses := true, plainKeys := false, apart := false }
def BrokerGrowsSaid : Prop := brokerGrowsRow.holds Tryz.pinned (OpenSpec.ofChange brokerGrowsSpec)

/-- ITS FALSE NEIGHBOUR: 'it returns false'. Refute it at one input. -/
def brokerGrowsWrong : ChangeSpec := { name := "brokerGrows", fn := fun _ => fun
  | [d1, d2, d3, d4, d5, d6] => { results := [.lit (.bool false)], args := [d1, d2, d3, d4, d5, d6] }
  | _ => none }
def BrokerGrowsWrongFalsely : Prop := brokerGrowsRow.holds Tryz.pinned (OpenSpec.ofChange brokerGrowsWrong)

/-- 'postilionlaw20.BrokerNil': WHATEVER THE INPUT: true; the input reads as it did. -/
def brokerNilSpec : ChangeSpec := { name := "brokerNil", fn := fun _ => fun
  | [d1, d2, d3] => { results := [.lit (.bool true)], args := [d1, d2, d3] }
  | _ => none }
def brokerNilRow : OpenClaim := { program := "ytoeiinllelipoaagreat", sum := "c22c91b53f598e32b484dbadba351763f1e3ece1b7767a02dea8e8355d8a4da4", func := "postilion/postilionlaw20.BrokerNil", spec := "brokerNil", unfollowed := true, recurses := true, plainKeys := false, apart := false }
def BrokerNilSaid : Prop := brokerNilRow.holds Tryz.pinned (OpenSpec.ofChange brokerNilSpec)

/-- ITS FALSE NEIGHBOUR: 'it returns false'. Refute it at one input. -/
def brokerNilWrong : ChangeSpec := { name := "brokerNil", fn := fun _ => fun
  | [d1, d2, d3] => { results := [.lit (.bool false)], args := [d1, d2, d3] }
  | _ => none }
def BrokerNilWrongFalsely : Prop := brokerNilRow.holds Tryz.pinned (OpenSpec.ofChange brokerNilWrong)

/- THE SECOND FORM. 'bulk': how many values and letters a reading holds, each counted each time it is reached (what is shared counts as often as it is met; a slice's spare places count too). A statement '..UptoSaid' is the law's where the arguments, and the package variables that the reading takes, are together of bulk at most 1048576: NARROWER than '..Said'. Prove '..Said' where nothing that the law and all that it calls make is longer than what came in: it says more and counts as full. Else prove '..UptoSaid'. A law counts once. -/
mutual
def uptoBulk {H : Type} : DataW H → Nat
  | .lit (.string bytes) => bytes.length + 1
  | .lit _ => 1
  | .nil => 1
  | .ptr d => uptoBulk d + 1
  | .slice elems spare => uptoBulkAll elems + uptoBulkAll spare + 1
  | .agg parts => uptoBulkAll parts + 1
  | .iface _ d => uptoBulk d + 1
  | .map entries => uptoBulkEntries entries + 1
  | .held _ => 1
def uptoBulkAll {H : Type} : List (DataW H) → Nat
  | [] => 0
  | d :: r => uptoBulk d + uptoBulkAll r
def uptoBulkEntries {H : Type} : List (Lit × DataW H) → Nat
  | [] => 0
  | x :: r => uptoBulkEntry x + uptoBulkEntries r
def uptoBulkEntry {H : Type} : Lit × DataW H → Nat
  | (.string bytes, d) => bytes.length + uptoBulk d + 1
  | (_, d) => uptoBulk d + 1
 end
def uptoSmall : (H : Type) → List (DataW H) → Bool := fun _ ds => decide (uptoBulkAll ds ≤ 1048576)
def OpenSpec.upto (s : _root_.Go.ChangeSpec) : _root_.Go.OpenSpec := { _root_.Go.OpenSpec.ofChange s with cond := some uptoSmall }

/-- 'postilionlaw20.BrokerIDs', WHERE WHAT IT READS IS OF BULK AT MOST 1048576: true; the input reads as it did. -/
def brokerIDsUptoRow : OpenClaim := { program := "ytoeiinllelipoaagreat", sum := "c22c91b53f598e32b484dbadba351763f1e3ece1b7767a02dea8e8355d8a4da4", func := "postilion/postilionlaw20.BrokerIDs", spec := "brokerIDs", unfollowed := true, recurses := true, plainKeys := false, apart := false, narrowed := true }
def BrokerIDsUptoSaid : Prop := brokerIDsUptoRow.holds Tryz.pinned (OpenSpec.upto brokerIDsSpec)

/-- 'postilionlaw20.BrokerGrows', WHERE WHAT IT READS IS OF BULK AT MOST 1048576: true; the input reads as it did. -/
def brokerGrowsUptoRow : OpenClaim := { program := "ytoeiinllelipoaagreat", sum := "c22c91b53f598e32b484dbadba351763f1e3ece1b7767a02dea8e8355d8a4da4", func := "postilion/postilionlaw20.BrokerGrows", spec := "brokerGrows", unfollowed := true, recurses := true, plainKeys := false, apart := false, narrowed := true }
def BrokerGrowsUptoSaid : Prop := brokerGrowsUptoRow.holds Tryz.pinned (OpenSpec.upto brokerGrowsSpec)

/-- 'postilionlaw20.BrokerNil', WHERE WHAT IT READS IS OF BULK AT MOST 1048576: true; the input reads as it did. -/
def brokerNilUptoRow : OpenClaim := { program := "ytoeiinllelipoaagreat", sum := "c22c91b53f598e32b484dbadba351763f1e3ece1b7767a02dea8e8355d8a4da4", func := "postilion/postilionlaw20.BrokerNil", spec := "brokerNil", unfollowed := true, recurses := true, plainKeys := false, apart := false, narrowed := true }
def BrokerNilUptoSaid : Prop := brokerNilUptoRow.holds Tryz.pinned (OpenSpec.upto brokerNilSpec)

end Rows
end Go.Proofs.YtoeiinllelipoaaGreat

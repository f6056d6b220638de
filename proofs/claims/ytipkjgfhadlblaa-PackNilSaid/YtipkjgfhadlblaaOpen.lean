/-
  What is known of a law's argument that can be read as data, by its type. Conditions: none.
-/
import Derived.Test.YtipkjgfhadlblaaPackD
import Derived.ProofKit
import Derived.OpenShut
import Derived.ShutString
import Derived.ChangeOld
import Derived.Below
import Derived.Lib.SmallJoins
import Derived.Deep.Slices
import Derived.Deep.Fields
namespace Go.Proofs.Ytipkjgfhadlblaa
open Go Go.RowKit Go.ChangeShapes Go.WideShapes Go.ChangeAt
open Go.ChangeMaps (open_string shut_string)

def repU64 (_ : World) (v : Value) : Prop := ∃ n : Nat, v = .int .u64 (n : Int) ∧ n < 18446744073709551616
def repI64 (_ : World) (v : Value) : Prop := ∃ n : Int, v = .int .i64 n ∧ -9223372036854775808 ≤ n ∧ n ≤ 9223372036854775807
def repBytes (w : World) (v : Value) : Prop := ∃ (A : Option Addr) (c : Nat) (l : List UInt8), v = .slice A l.length c ∧ Reads w w.heap.size 1 A l.length (bys l) ∧ l.length ≤ c ∧ c ≤ maxLen

section
variable {H : Type} {enc : TypeId × Value → H} {w : World} {base : Nat} {r : Reach} {b0 : Nat} {spare : Nat → Bool} {held : Bool} {v : Value} {d : DataW H} {p : List MemPlace}
theorem repU64_of (hv : Value.okWide Try.prog w r b0 23 v) (h : DataW.Trod enc Try.prog w base spare held 23 v d p) : repU64 w v := by
  obtain ⟨a, rfl, rfl, rfl, hw⟩ := open_int Try.underlying23 hv h
  have hb := bounds_u64 hw
  exact ⟨a.toNat, by rw [Int.toNat_of_nonneg hb.1], by omega⟩
theorem repI64_of (hv : Value.okWide Try.prog w r b0 3 v) (h : DataW.Trod enc Try.prog w base spare held 3 v d p) : repI64 w v := by
  obtain ⟨a, rfl, rfl, rfl, hw⟩ := open_int Try.underlying3 hv h
  have hb := bounds_i64 hw
  exact ⟨a, rfl, by omega, by omega⟩
end
end Go.Proofs.Ytipkjgfhadlblaa

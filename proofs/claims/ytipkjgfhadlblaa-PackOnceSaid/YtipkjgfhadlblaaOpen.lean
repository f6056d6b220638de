/-
  What is known of a law's argument that can be read as data, by its type. Conditions: none.
-/
import Derived.Test.YtipkjgfhadlblaaPackD
import Derived.ProofKit
import Derived.OpenShut
import Derived.ShutString
import Derived.ChangeOld
import Derived.Below
import Derived.Lib.SmallJoins
import Derived.Deep.Slices
import Derived.Deep.Fields
namespace Go.Proofs.Ytipkjgfhadlblaa
open Go Go.RowKit Go.ChangeShapes Go.WideShapes Go.ChangeAt
open Go.ChangeMaps (open_string shut_string)

def repU64 (_ : World) (v : Value) : Prop := ∃ n : Nat, v = .int .u64 (n : Int) ∧ n < 18446744073709551616
def repI64 (_ : World) (v : Value) : Prop := ∃ n : Int, v = .int .i64 n ∧ -9223372036854775808 ≤ n ∧ n ≤ 9223372036854775807
def repBytes (w : World) (v : Value) : Prop := ∃ (A : Option Addr) (c : Nat) (l : List UInt8), v = .slice A l.length c ∧ Reads w w.heap.size 1 A l.length (bys l) ∧ l.length ≤ c ∧ c ≤ maxLen

section
variable {H : Type} {enc : TypeId × Value → H} {w : World} {base : Nat} {r : Reach} {b0 : Nat} {spare : Nat → Bool} {held : Bool} {v : Value} {d : DataW H} {p : List MemPlace}
theorem repU64_of (hv : Value.okWide Try.prog w r b0 23 v) (h : DataW.Trod enc Try.prog w base spare held 23 v d p) : repU64 w v := by
  obtain ⟨a, rfl, rfl, rfl, hw⟩ := open_int Try.underlying23 hv h
  have hb := bounds_u64 hw
  exact ⟨a.toNat, by rw [Int.toNat_of_nonneg hb.1], by omega⟩
theorem repI64_of (hv : Value.okWide Try.prog w r b0 3 v) (h : DataW.Trod enc Try.prog w base spare held 3 v d p) : repI64 w v := by
  obtain ⟨a, rfl, rfl, rfl, hw⟩ := open_int Try.underlying3 hv h
  have hb := bounds_i64 hw
  exact ⟨a, rfl, by omega, by omega⟩
theorem bytes_of_ints {w : World} {B : Nat} {a : Addr} {len : Nat} {zs : List Int} (hB : w.heap.size ≤ B) (hl : len ≤ zs.length) (hc : ∀ i, i < zs.length → w.cell? (a.add i) = some (.int .u8 (zs.getD i 0))) (hw : ∀ n ∈ zs, (Lit.int .u8 n).wf = true) :
    ∃ l : List UInt8, l.length = len ∧ Reads w B 1 (some a) len (bys l) := by
  refine ⟨(zs.take len).map fun n => UInt8.ofNat n.toNat, by simp; omega, by simp; omega, fun h0 => ?_⟩
  simp at h0
  have hlen : 0 < zs.length := by omega
  have h1 := hc 0 hlen
  obtain ⟨b, off, spot⟩ := a
  have hs : spot = none := by simpa [Addr.add] using World.cell?_spot h1
  subst hs
  refine ⟨b, off, rfl, ?_, fun j u hu => ?_⟩
  · have := World.block_lt_of_cell? w _ h1
    simp [Addr.add] at this
    omega
  · have hj : j < len := by
      have := (List.getElem?_eq_some_iff.1 hu).1
      simp at this; omega
    have h2 := hc j (by omega)
    rw [Addr.add_lit] at h2
    rw [h2, ← hu]
    have hj2 : j < zs.length := by omega
    have hm := bounds_u8 (hw zs[j] (List.getElem_mem hj2))
    have h3 : (zs.take len)[j]? = some zs[j] := by rw [List.getElem?_take_of_lt hj, List.getElem?_eq_getElem hj2]
    have h4 : (UInt8.ofNat zs[j].toNat).toNat = zs[j].toNat := by simp; omega
    simp only [bys, List.getElem?_map, h3, Option.map_some, h4, List.getD_eq_getElem?_getD, List.getElem?_eq_getElem hj2, Option.getD_some]
    congr 2
    omega
theorem repBytes_of (hv : Value.okWide Try.prog w r b0 24 v) (h : DataW.Trod enc Try.prog w base spare held 24 v d p) : repBytes w v := by
  obtain ⟨a0, len0, cap0, rfl⟩ := okWide_slice Try.underlying24 hv
  obtain ⟨fuel, hf⟩ := h
  rcases open_ints Try.underlying24 Try.underlying5 (by kernel_rfl) hf with ⟨hcs, _⟩ | ⟨x, l, c, zs, hcs, _, hl, hm, hz, _, hcell, hwz⟩
  · simp [Value.cells] at hcs
    obtain ⟨rfl, rfl, rfl⟩ := hcs
    exact ⟨none, 0, [], rfl, Reads.nil _ _ _ _, by simp, by simp⟩
  · simp [Value.cells] at hcs
    obtain ⟨rfl, rfl, rfl⟩ := hcs
    have hlz : len0 ≤ zs.length := by rw [hz]; split <;> omega
    obtain ⟨bl, h1, h2⟩ := bytes_of_ints (B := w.heap.size) (Nat.le_refl _) hlz hcell hwz
    exact ⟨_, _, bl, by rw [h1], by rw [h1]; exact h2, by omega, hm⟩
end
end Go.Proofs.Ytipkjgfhadlblaa

/-
  What is known of an argument of type api.Event: its attributes, four cells each. Conditions: none.
-/
import Derived.Test.YtjcdgbnbaiebdaaOpen
set_option maxRecDepth 100000
namespace Go.Proofs.Ytjcdgbnbaiebdaa
open Go Go.RowKit Go.ChangeShapes Go.WideShapes Go.ChangeAt
open Go.ChangeMaps (open_string shut_string)

/-- An attribute: its name, its value's kind, number and text. -/
abbrev Att := ByteArray × Int × Int × ByteArray
abbrev attc (x : Att) : List Value := [.string x.1, .int .i64 x.2.1, .int .i64 x.2.2.1, .string x.2.2.2]
def repEvent (w : World) (v : Value) : Prop := ∃ (A : Option Addr) (c : Nat) (l : List Att), v = .slice A l.length c ∧ Reads w w.heap.size 4 A l.length (l.flatMap attc) ∧ (∀ x ∈ l, i64ok x.2.1 ∧ i64ok x.2.2.1) ∧ l.length ≤ c ∧ c ≤ maxLen

def repStr (_ : World) (v : Value) : Prop := ∃ s : ByteArray, v = .string s
def repU8 (_ : World) (v : Value) : Prop := ∃ b : UInt8, v = .int .u8 (b.toNat : Int)

section
variable {H : Type} {enc : TypeId × Value → H} {w : World} {base : Nat} {r : Reach} {b0 : Nat} {spare : Nat → Bool} {held : Bool} {v : Value} {d : DataW H} {p : List MemPlace}
theorem att_cells {cs : List Value} {fuel : Nat} {x : DataW H × List MemPlace} (h : DataW.trod enc Try.prog w base spare held fuel 79 cs = some x) : ∃ y : Att, cs = attc y ∧ i64ok y.2.1 ∧ i64ok y.2.2.1 := by
  obtain ⟨xs, n, _, _, hlen, hxl, hf⟩ := DataW.trod_struct Try.underlying79 h
  have hC : Try.prog.cellsOf 79 = 4 := by kernel_rfl
  rw [hC] at hlen
  match cs, hlen with
  | [c0, c1, c2, c3], _ =>
    have h0 := hf 0 _ rfl
    have h1 := hf 1 _ rfl
    have e1 : Try.prog.cellsOf 9 = 1 := by kernel_rfl
    have e2 : Try.prog.cellsOf 76 = 3 := by kernel_rfl
    simp [e1, e2] at h0 h1
    have hxl' : xs.length = 2 := hxl
    rw [List.getElem?_eq_getElem (by omega)] at h0 h1
    obtain ⟨s, es, _, _⟩ := DataW.trod_string Try.underlying9 h0
    obtain ⟨y, ey, w1, w2⟩ := val_cells h1
    simp at es ey
    obtain ⟨rfl, rfl, rfl⟩ := ey
    subst es
    exact ⟨(s, y), rfl, w1, w2⟩
theorem repEvent_of (hv : Value.okWide Try.prog w r b0 29 v) (h : DataW.Trod enc Try.prog w base spare held 29 v d p) : repEvent w v := by
  obtain ⟨A, n, c, css, rfl, h1, h2, h3, h4, h5⟩ := reads_of_slice Try.underlying29 4 (by kernel_rfl) (fun cs => ∃ y : Att, cs = attc y ∧ i64ok y.2.1 ∧ i64ok y.2.2.1) (fun _ _ _ _ ht => att_cells ht) hv h
  obtain ⟨l, h6, h7, h8⟩ := list_of_cells attc (fun y : Att => i64ok y.2.1 ∧ i64ok y.2.2.1) css fun cs hcs => (h4 cs hcs).2
  have h9 := h5 (by decide)
  subst h1
  rw [← h6] at h9 h2 ⊢
  refine ⟨A, c, l, rfl, ?_, h8, h2, h3⟩
  rw [h7] at h9
  rwa [List.flatMap_def]
theorem repStr_of (hv : Value.okWide Try.prog w r b0 9 v) (h : DataW.Trod enc Try.prog w base spare held 9 v d p) : repStr w v := by
  obtain ⟨a, rfl, _⟩ := open_string Try.underlying9 hv h
  exact ⟨a, rfl⟩
theorem repU8_of (hv : Value.okWide Try.prog w r b0 5 v) (h : DataW.Trod enc Try.prog w base spare held 5 v d p) : repU8 w v := by
  obtain ⟨a, rfl, rfl, rfl, hw⟩ := open_int Try.underlying5 hv h
  have hb := bounds_u8 hw
  refine ⟨UInt8.ofNat a.toNat, ?_⟩
  have : (UInt8.ofNat a.toNat).toNat = a.toNat := by simp; omega
  rw [this, Int.toNat_of_nonneg hb.1]
end
end Go.Proofs.Ytjcdgbnbaiebdaa

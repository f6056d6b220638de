/-
  What is known of the arguments of the statements of layer 2 that are lists. Conditions: none.
-/
import Derived.Test.YtipkjgfhadlblaaOpen
namespace Go.Proofs.Ytipkjgfhadlblaa
open Go Go.RowKit Go.ChangeShapes Go.WideShapes Go.ChangeAt

def repNums (w : World) (v : Value) : Prop := ∃ (A : Option Addr) (c : Nat) (l : List Nat), v = .slice A l.length c ∧ Reads w w.heap.size 1 A l.length (l.map u64c) ∧ (∀ n ∈ l, n < 18446744073709551616) ∧ l.length ≤ c ∧ c ≤ maxLen
def repVals (w : World) (v : Value) : Prop := ∃ (A : Option Addr) (c : Nat) (l : List (Int × Int × ByteArray)), v = .slice A l.length c ∧ Reads w w.heap.size 3 A l.length (l.flatMap valc) ∧ (∀ x ∈ l, i64ok x.1 ∧ i64ok x.2.1) ∧ l.length ≤ c ∧ c ≤ maxLen
def repTexts (w : World) (v : Value) : Prop := ∃ (A : Option Addr) (c : Nat) (vs : List Value), v = .slice A vs.length c ∧ Reads w w.heap.size 1 A vs.length vs ∧ (∀ x ∈ vs, repBytes w x) ∧ vs.length ≤ c ∧ c ≤ maxLen

abbrev askc (x : Int × Int) : List Value := [.int .i64 x.1, .int .i64 x.2]
def repAsks (w : World) (v : Value) : Prop := ∃ (A : Option Addr) (c : Nat) (l : List (Int × Int)), v = .slice A l.length c ∧ Reads w w.heap.size 2 A l.length (l.flatMap askc) ∧ (∀ x ∈ l, i64ok x.1 ∧ i64ok x.2) ∧ l.length ≤ c ∧ c ≤ maxLen

section
variable {H : Type} {enc : TypeId × Value → H} {w : World} {base : Nat} {r : Reach} {b0 : Nat} {spare : Nat → Bool} {held : Bool} {v : Value} {d : DataW H} {p : List MemPlace}
theorem u64_cells {cs : List Value} {fuel : Nat} {x : DataW H × List MemPlace} (h : DataW.trod enc Try.prog w base spare held fuel 23 cs = some x) : ∃ n : Nat, cs = [u64c n] ∧ n < 18446744073709551616 := by
  obtain ⟨n, rfl, _, hw⟩ := DataW.trod_int Try.underlying23 h
  have hb := bounds_u64 hw
  exact ⟨n.toNat, by simp only [u64c, Int.toNat_of_nonneg hb.1], by omega⟩
theorem repNums_of (hv : Value.okWide Try.prog w r b0 45 v) (h : DataW.Trod enc Try.prog w base spare held 45 v d p) : repNums w v := by
  obtain ⟨A, n, c, css, rfl, h1, h2, h3, h4, h5⟩ := reads_of_slice Try.underlying45 1 (by kernel_rfl) (fun cs => ∃ n : Nat, cs = [u64c n] ∧ n < 18446744073709551616) (fun _ _ _ _ ht => u64_cells ht) hv h
  obtain ⟨l, h6, h7, h8⟩ := list_of_cells (fun n : Nat => [u64c n]) (fun n => n < 18446744073709551616) css fun cs hcs => (h4 cs hcs).2
  have h9 := h5 (by decide)
  subst h1
  rw [← h6] at h9 h2 ⊢
  refine ⟨A, c, l, rfl, ?_, h8, h2, h3⟩
  rw [h7] at h9
  have e : (l.map fun n : Nat => [u64c n]).flatten = l.map u64c := by
    clear h9 h8 h7 h6 h2
    induction l with
    | nil => rfl
    | cons a l ih => simp [ih]
  rwa [e] at h9
theorem ask_cells {cs : List Value} {fuel : Nat} {x : DataW H × List MemPlace} (h : DataW.trod enc Try.prog w base spare held fuel 43 cs = some x) : ∃ y, cs = askc y ∧ i64ok y.1 ∧ i64ok y.2 := by
  obtain ⟨xs, n, _, _, hlen, hxl, hf⟩ := DataW.trod_struct Try.underlying43 h
  have hC : Try.prog.cellsOf 43 = 2 := by kernel_rfl
  rw [hC] at hlen
  match cs, hlen with
  | [c0, c1], _ =>
    have h0 := hf 0 _ rfl
    have h1 := hf 1 _ rfl
    have e1 : Try.prog.cellsOf 3 = 1 := by kernel_rfl
    simp [e1] at h0 h1
    have hxl' : xs.length = 2 := hxl
    rw [List.getElem?_eq_getElem (by omega)] at h0 h1
    obtain ⟨a, ea, _, wa⟩ := DataW.trod_int Try.underlying3 h0
    obtain ⟨b, eb, _, wb⟩ := DataW.trod_int Try.underlying3 h1
    simp at ea eb
    subst ea eb
    have h3 := bounds_i64 wa
    have h4 := bounds_i64 wb
    exact ⟨(a, b), rfl, (by show i64ok a; unfold i64ok; omega), (by show i64ok b; unfold i64ok; omega)⟩
theorem repAsks_of (hv : Value.okWide Try.prog w r b0 37 v) (h : DataW.Trod enc Try.prog w base spare held 37 v d p) : repAsks w v := by
  obtain ⟨A, n, c, css, rfl, h1, h2, h3, h4, h5⟩ := reads_of_slice Try.underlying37 2 (by kernel_rfl) (fun cs => ∃ y, cs = askc y ∧ i64ok y.1 ∧ i64ok y.2) (fun _ _ _ _ ht => ask_cells ht) hv h
  obtain ⟨l, h6, h7, h8⟩ := list_of_cells askc (fun y => i64ok y.1 ∧ i64ok y.2) css fun cs hcs => (h4 cs hcs).2
  have h9 := h5 (by decide)
  subst h1
  rw [← h6] at h9 h2 ⊢
  refine ⟨A, c, l, rfl, ?_, h8, h2, h3⟩
  rw [h7] at h9
  rwa [List.flatMap_def]
theorem repVals_of (hv : Value.okWide Try.prog w r b0 47 v) (h : DataW.Trod enc Try.prog w base spare held 47 v d p) : repVals w v := by
  obtain ⟨A, n, c, css, rfl, h1, h2, h3, h4, h5⟩ := reads_of_slice Try.underlying47 3 (by kernel_rfl) (fun cs => ∃ y, cs = valc y ∧ i64ok y.1 ∧ i64ok y.2.1) (fun _ _ _ _ ht => val_cells ht) hv h
  obtain ⟨l, h6, h7, h8⟩ := list_of_cells valc (fun y => i64ok y.1 ∧ i64ok y.2.1) css fun cs hcs => (h4 cs hcs).2
  have h9 := h5 (by decide)
  subst h1
  rw [← h6] at h9 h2 ⊢
  refine ⟨A, c, l, rfl, ?_, h8, h2, h3⟩
  rw [h7] at h9
  rwa [List.flatMap_def]
theorem repTexts_of (hv : Value.okWide Try.prog w r b0 46 v) (h : DataW.Trod enc Try.prog w base spare held 46 v d p) : repTexts w v := by
  obtain ⟨A, n, c, css, rfl, h1, h2, h3, h4, h5⟩ := reads_of_slice Try.underlying46 1 (by kernel_rfl) (fun cs => ∃ v, cs = [v] ∧ repBytes w v) (fun _ _ _ _ ht => bytes_cells ht) hv h
  obtain ⟨l, h6, h7, h8⟩ := list_of_cells (fun v : Value => [v]) (repBytes w) css fun cs hcs => (h4 cs hcs).2
  have h9 := h5 (by decide)
  subst h1
  rw [← h6] at h9 h2 ⊢
  refine ⟨A, c, l, rfl, ?_, h8, h2, h3⟩
  rw [h7] at h9
  have e : (l.map fun v : Value => [v]).flatten = l := by
    clear h9 h8 h7 h6 h2
    induction l with
    | nil => rfl
    | cons a l ih => simp [ih]
  rwa [e] at h9
end
end Go.Proofs.Ytipkjgfhadlblaa

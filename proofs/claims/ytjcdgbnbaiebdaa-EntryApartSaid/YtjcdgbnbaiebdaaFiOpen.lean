/-
  What is known of an argument of type api.Filter, and of api.Test: tests, five cells each. Conditions: none.
-/
import Derived.Test.YtjcdgbnbaiebdaaEvB
set_option maxRecDepth 100000
namespace Go.Proofs.Ytjcdgbnbaiebdaa
open Go Go.RowKit Go.ChangeShapes Go.WideShapes Go.ChangeAt

/-- A test: its name, op, and its value's kind, number and text. -/
abbrev Tst := ByteArray × Int × Int × Int × ByteArray
abbrev tstc (x : Tst) : List Value := [.string x.1, .int .i64 x.2.1, .int .i64 x.2.2.1, .int .i64 x.2.2.2.1, .string x.2.2.2.2]
abbrev tstv (x : Tst) : Value := .agg #[.string x.1, .int .i64 x.2.1, .int .i64 x.2.2.1, .int .i64 x.2.2.2.1, .string x.2.2.2.2]
/-- Numbers that fit. -/
def fitT (x : Tst) : Prop := i64ok x.2.1 ∧ i64ok x.2.2.1 ∧ i64ok x.2.2.2.1
def repFilter (w : World) (v : Value) : Prop := ∃ (A : Option Addr) (c : Nat) (l : List Tst), v = .slice A l.length c ∧ Reads w w.heap.size 5 A l.length (l.flatMap tstc) ∧ (∀ x ∈ l, fitT x) ∧ l.length ≤ c ∧ c ≤ maxLen
def repTest (_ : World) (v : Value) : Prop := ∃ x : Tst, v = tstv x ∧ fitT x

theorem tsts_at (l : List Tst) (k : Nat) (hk : k < l.length) : ∀ j, (hj : j < 5) → (l.flatMap tstc)[k * 5 + j]? = some ((tstc l[k])[j]'hj) := by
  intro j hj
  rw [List.flatMap_def, flatten_at 5 _ (by intro cs hcs; obtain ⟨y, _, rfl⟩ := List.mem_map.1 hcs; rfl) k j (by simpa using hk) hj]
  simp [hk]
theorem tsts_len (l : List Tst) : (l.flatMap tstc).length = l.length * 5 := by
  rw [List.flatMap_def, flatten_len 5 _ (by intro cs hcs; obtain ⟨y, _, rfl⟩ := List.mem_map.1 hcs; rfl)]; simp
/-- A filter that reads as tests: where they lie. -/
theorem Reads.tsts {w : World} {B n : Nat} {A : Option Addr} {l : List Tst} (h : Reads w B 5 A n (l.flatMap tstc)) (hl : 0 < l.length) :
    ∃ b off, A = some ⟨b, off, none⟩ ∧ b < B ∧ ∀ k (hk : k < l.length), w.cell? ⟨b, off + k * 5, none⟩ = some (.string l[k].1) ∧ w.cell? ⟨b, off + k * 5 + 1, none⟩ = some (.int .i64 l[k].2.1) ∧
      w.cell? ⟨b, off + k * 5 + 2, none⟩ = some (.int .i64 l[k].2.2.1) ∧ w.cell? ⟨b, off + k * 5 + 3, none⟩ = some (.int .i64 l[k].2.2.2.1) ∧ w.cell? ⟨b, off + k * 5 + 4, none⟩ = some (.string l[k].2.2.2.2) := by
  obtain ⟨b, off, e, hb, hc⟩ := h.2 (by rw [tsts_len]; omega)
  refine ⟨b, off, e, hb, fun k hk => ?_⟩
  have h0 := hc _ _ (tsts_at l k hk 0 (by decide))
  have h1 := hc _ _ (tsts_at l k hk 1 (by decide))
  have h2 := hc _ _ (tsts_at l k hk 2 (by decide))
  have h3 := hc _ _ (tsts_at l k hk 3 (by decide))
  have h4 := hc _ _ (tsts_at l k hk 4 (by decide))
  simp only [Nat.add_zero, ← Nat.add_assoc] at h0 h1 h2 h3 h4
  exact ⟨h0, h1, h2, h3, h4⟩
theorem Reads.tstn {w : World} {B n : Nat} {A : Option Addr} {l : List Tst} (h : Reads w B 5 A n (l.flatMap tstc)) : n = l.length := by
  have := h.1; rw [tsts_len] at this; omega

/-- A slice that reads as a filter. -/
def flt (l : List Tst) (v : Value) (w : World) : Prop := ∃ A c, v = .slice A l.length c ∧ Reads w w.heap.size 5 A l.length (l.flatMap tstc)
theorem flt_st (l : List Tst) : ∀ v w w', flt l v w → Below w.heap.size w w' → flt l v w' := by
  rintro v w w' ⟨A, c, rfl, hr⟩ hb
  exact ⟨A, c, rfl, (hr.below hb (Nat.le_refl _)).more hb.size⟩

section
variable {H : Type} {enc : TypeId × Value → H} {w : World} {base : Nat} {r : Reach} {b0 : Nat} {spare : Nat → Bool} {held : Bool} {v : Value} {d : DataW H} {p : List MemPlace}
theorem tst_cells {cs : List Value} {fuel : Nat} {x : DataW H × List MemPlace} (h : DataW.trod enc Try.prog w base spare held fuel 116 cs = some x) : ∃ y : Tst, cs = tstc y ∧ fitT y := by
  obtain ⟨xs, n, _, _, hlen, hxl, hf⟩ := DataW.trod_struct Try.underlying116 h
  have hC : Try.prog.cellsOf 116 = 5 := by kernel_rfl
  rw [hC] at hlen
  match cs, hlen with
  | [c0, c1, c2, c3, c4], _ =>
    have h0 := hf 0 _ rfl
    have h1 := hf 1 _ rfl
    have h2 := hf 2 _ rfl
    have e1 : Try.prog.cellsOf 9 = 1 := by kernel_rfl
    have e2 : Try.prog.cellsOf 3 = 1 := by kernel_rfl
    have e3 : Try.prog.cellsOf 76 = 3 := by kernel_rfl
    simp [e1, e2, e3] at h0 h1 h2
    have hxl' : xs.length = 3 := hxl
    rw [List.getElem?_eq_getElem (by omega)] at h0 h1 h2
    obtain ⟨s, es, _, _⟩ := DataW.trod_string Try.underlying9 h0
    obtain ⟨a, ea, _, wa⟩ := DataW.trod_int Try.underlying3 h1
    obtain ⟨y, ey, w1, w2⟩ := val_cells h2
    simp at es ea ey
    obtain ⟨rfl, rfl, rfl⟩ := ey
    subst es ea
    have hb := bounds_i64 wa
    exact ⟨(s, a, y), rfl, (by show i64ok a; unfold i64ok; omega), w1, w2⟩
theorem repFilter_of (hv : Value.okWide Try.prog w r b0 31 v) (h : DataW.Trod enc Try.prog w base spare held 31 v d p) : repFilter w v := by
  obtain ⟨A, n, c, css, rfl, h1, h2, h3, h4, h5⟩ := reads_of_slice Try.underlying31 5 (by kernel_rfl) (fun cs => ∃ y : Tst, cs = tstc y ∧ fitT y) (fun _ _ _ _ ht => tst_cells ht) hv h
  obtain ⟨l, h6, h7, h8⟩ := list_of_cells tstc fitT css fun cs hcs => (h4 cs hcs).2
  have h9 := h5 (by decide)
  subst h1
  rw [← h6] at h9 h2 ⊢
  refine ⟨A, c, l, rfl, ?_, h8, h2, h3⟩
  rw [h7] at h9
  rwa [List.flatMap_def]
theorem repTest_of (hv : Value.okWide Try.prog w r b0 116 v) (h : DataW.Trod enc Try.prog w base spare held 116 v d p) : repTest w v := by
  obtain ⟨cs, rfl, hsz⟩ := okWide_struct Try.underlying116 hv
  obtain ⟨fuel, hf⟩ := h
  obtain ⟨y, h1, h2⟩ := tst_cells hf
  refine ⟨y, ?_, h2⟩
  have : cs.toList = tstc y := by simpa [Value.cells] using h1
  obtain ⟨l⟩ := cs
  simp at this
  rw [this]
end
end Go.Proofs.Ytjcdgbnbaiebdaa

/-
  What is known of a law's argument that can be read as data, by its type. Conditions: none.
-/
import Derived.Test.YtjcdgbnbaiebdaaPackD
import Derived.ProofKit
import Derived.OpenShut
import Derived.ShutString
import Derived.ChangeOld
import Derived.Below
import Derived.Lib.SmallJoins
import Derived.Deep.Slices
import Derived.Deep.Fields
set_option maxRecDepth 100000
namespace Go.Proofs.Ytjcdgbnbaiebdaa
open Go Go.RowKit Go.ChangeShapes Go.WideShapes Go.ChangeAt
open Go.ChangeMaps (open_string shut_string)

set_option linter.unusedVariables false
def repU64 (_ : World) (v : Value) : Prop := ∃ n : Nat, v = .int .u64 (n : Int) ∧ n < 18446744073709551616
def repI64 (_ : World) (v : Value) : Prop := ∃ n : Int, v = .int .i64 n ∧ -9223372036854775808 ≤ n ∧ n ≤ 9223372036854775807
def repBytes (w : World) (v : Value) : Prop := ∃ (A : Option Addr) (c : Nat) (l : List UInt8), v = .slice A l.length c ∧ Reads w w.heap.size 1 A l.length (bys l) ∧ l.length ≤ c ∧ c ≤ maxLen
/-- The cells of a number, of a value. -/
abbrev u64c (n : Nat) : Value := .int .u64 (n : Int)
abbrev valc (x : Int × Int × ByteArray) : List Value := [.int .i64 x.1, .int .i64 x.2.1, .string x.2.2]
def i64ok (n : Int) : Prop := -9223372036854775808 ≤ n ∧ n ≤ 9223372036854775807
def repVal (_ : World) (v : Value) : Prop := ∃ (k n : Int) (s : ByteArray), v = vv k n s ∧ i64ok k ∧ i64ok n

theorem flatten_len {α : Type} (C : Nat) : ∀ (css : List (List α)), (∀ cs ∈ css, cs.length = C) → css.flatten.length = css.length * C
  | [], _ => by simp
  | c :: css, h => by
    simp only [List.flatten_cons, List.length_append, List.length_cons]
    rw [h c (by simp), flatten_len C css fun cs hcs => h cs (by simp [hcs]), Nat.succ_mul]
    omega
theorem flatten_at {α : Type} (C : Nat) : ∀ (css : List (List α)), (∀ cs ∈ css, cs.length = C) → ∀ i j, i < css.length → j < C → css.flatten[i * C + j]? = (css[i]?.getD [])[j]?
  | [], _, i, j, hi, _ => by simp at hi
  | c :: css, h, i, j, hi, hj => by
    have hc := h c (by simp)
    cases i with
    | zero => simp; rw [List.getElem?_append_left (by omega)]
    | succ i =>
      rw [List.flatten_cons, List.getElem?_append_right (by rw [hc, Nat.succ_mul]; omega)]
      simp only [List.getElem?_cons_succ]
      rw [← flatten_at C css (fun cs hcs => h cs (by simp [hcs])) i j (by simpa using hi) hj]
      congr 1
      rw [hc, Nat.succ_mul]
      omega

section
variable {H : Type} {enc : TypeId × Value → H} {w : World} {base : Nat} {r : Reach} {b0 : Nat} {spare : Nat → Bool} {held : Bool} {v : Value} {d : DataW H} {p : List MemPlace}
theorem repU64_of (hv : Value.okWide Try.prog w r b0 24 v) (h : DataW.Trod enc Try.prog w base spare held 24 v d p) : repU64 w v := by
  obtain ⟨a, rfl, rfl, rfl, hw⟩ := open_int Try.underlying24 hv h
  have hb := bounds_u64 hw
  exact ⟨a.toNat, by rw [Int.toNat_of_nonneg hb.1], by omega⟩
theorem repI64_of (hv : Value.okWide Try.prog w r b0 3 v) (h : DataW.Trod enc Try.prog w base spare held 3 v d p) : repI64 w v := by
  obtain ⟨a, rfl, rfl, rfl, hw⟩ := open_int Try.underlying3 hv h
  have hb := bounds_i64 hw
  exact ⟨a, rfl, by omega, by omega⟩
theorem bytes_of_ints {w : World} {B : Nat} {a : Addr} {len : Nat} {zs : List Int} (hB : w.heap.size ≤ B) (hl : len ≤ zs.length) (hc : ∀ i, i < zs.length → w.cell? (a.add i) = some (.int .u8 (zs.getD i 0))) (hw : ∀ n ∈ zs, (Lit.int .u8 n).wf = true) :
    ∃ l : List UInt8, l.length = len ∧ Reads w B 1 (some a) len (bys l) := by
  refine ⟨(zs.take len).map fun n => UInt8.ofNat n.toNat, by simp; omega, by simp; omega, fun h0 => ?_⟩
  simp at h0
  have hlen : 0 < zs.length := by omega
  have h1 := hc 0 hlen
  obtain ⟨b, off, spot⟩ := a
  have hs : spot = none := by simpa [Addr.add] using World.cell?_spot h1
  subst hs
  refine ⟨b, off, rfl, ?_, fun j u hu => ?_⟩
  · have := World.block_lt_of_cell? w _ h1
    simp [Addr.add] at this
    omega
  · have hj : j < len := by
      have := (List.getElem?_eq_some_iff.1 hu).1
      simp at this; omega
    have h2 := hc j (by omega)
    rw [Addr.add_lit] at h2
    rw [h2, ← hu]
    have hj2 : j < zs.length := by omega
    have hm := bounds_u8 (hw zs[j] (List.getElem_mem hj2))
    have h3 : (zs.take len)[j]? = some zs[j] := by rw [List.getElem?_take_of_lt hj, List.getElem?_eq_getElem hj2]
    have h4 : (UInt8.ofNat zs[j].toNat).toNat = zs[j].toNat := by simp; omega
    simp only [bys, List.getElem?_map, h3, Option.map_some, h4, List.getD_eq_getElem?_getD, List.getElem?_eq_getElem hj2, Option.getD_some]
    congr 2
    omega
theorem repBytes_of (hv : Value.okWide Try.prog w r b0 46 v) (h : DataW.Trod enc Try.prog w base spare held 46 v d p) : repBytes w v := by
  obtain ⟨a0, len0, cap0, rfl⟩ := okWide_slice Try.underlying46 hv
  obtain ⟨fuel, hf⟩ := h
  rcases open_ints Try.underlying46 Try.underlying5 (by kernel_rfl) hf with ⟨hcs, _⟩ | ⟨x, l, c, zs, hcs, _, hl, hm, hz, _, hcell, hwz⟩
  · simp [Value.cells] at hcs
    obtain ⟨rfl, rfl, rfl⟩ := hcs
    exact ⟨none, 0, [], rfl, Reads.nil _ _ _ _, by simp, by simp⟩
  · simp [Value.cells] at hcs
    obtain ⟨rfl, rfl, rfl⟩ := hcs
    have hlz : len0 ≤ zs.length := by rw [hz]; split <;> omega
    obtain ⟨bl, h1, h2⟩ := bytes_of_ints (B := w.heap.size) (Nat.le_refl _) hlz hcell hwz
    exact ⟨_, _, bl, by rw [h1], by rw [h1]; exact h2, by omega, hm⟩

/-- The cells of a slice whose elements have one cell, whatever they are. -/
theorem reads_of_slice {T E : TypeId} (hT : Try.prog.underlying T = some (.slice E)) (C : Nat) (hC : Try.prog.cellsOf E = C) (Rep : List Value → Prop)
    (hE : ∀ (fuel : Nat) (cs : List Value) (x : DataW H × List MemPlace), cs.length = C → DataW.trod enc Try.prog w base spare held fuel E cs = some x → Rep cs)
    (hv : Value.okWide Try.prog w r b0 T v) (h : DataW.Trod enc Try.prog w base spare held T v d p) :
    ∃ (A : Option Addr) (n c : Nat) (css : List (List Value)), v = .slice A n c ∧ css.length = n ∧ n ≤ c ∧ c ≤ maxLen ∧ (∀ cs ∈ css, cs.length = C ∧ Rep cs) ∧ (0 < C → Reads w w.heap.size C A n css.flatten) := by
  obtain ⟨a0, len0, cap0, rfl⟩ := okWide_slice hT hv
  obtain ⟨fuel, hf⟩ := h
  rcases Go.Deep.open_slice hT hf with ⟨hcs, _⟩ | ⟨a, len, cap, m, n, D, Pl, hcs, hb, hl, hm, hmm, hx, hi⟩
  · simp [Value.cells] at hcs
    obtain ⟨rfl, rfl, rfl⟩ := hcs
    exact ⟨none, 0, 0, [], rfl, rfl, by simp, by simp, by simp, fun _ => Reads.nil _ _ _ _⟩
  · simp [Value.cells] at hcs
    obtain ⟨rfl, rfl, rfl⟩ := hcs
    have hlm : len0 ≤ m := by rw [hmm]; split <;> omega
    have hex : ∀ i, i < len0 → ∃ cs, cs.length = C ∧ Rep cs ∧ ∀ j, j < C → w.cell? (a.add (i * C + j)) = cs[j]? := by
      intro i hil
      obtain ⟨cs', hc, ht⟩ := hi i (by omega)
      rw [hC] at hc
      obtain ⟨_, hcl, hat⟩ := World.cells?_some hc
      refine ⟨cs', hcl, hE _ _ _ hcl ht, fun j hj => ?_⟩
      rw [← Go.Deep.add_add]
      exact hat j hj
    have key : ∀ k, k ≤ len0 → ∃ css : List (List Value), css.length = k ∧ (∀ cs ∈ css, cs.length = C ∧ Rep cs) ∧ ∀ i j, i < k → j < C → w.cell? (a.add (i * C + j)) = (css[i]?.getD [])[j]? := by
      intro k
      induction k with
      | zero => intro _; exact ⟨[], rfl, by simp, by simp⟩
      | succ k ih =>
        intro hk
        obtain ⟨css, h1, h2, h3⟩ := ih (by omega)
        obtain ⟨cs, h4, h5, h6⟩ := hex k (by omega)
        refine ⟨css ++ [cs], by simp [h1], ?_, fun i j hik hj => ?_⟩
        · intro x hx
          rcases List.mem_append.1 hx with hx | hx
          · exact h2 x hx
          · simp at hx; subst hx; exact ⟨h4, h5⟩
        · by_cases hik' : i < k
          · rw [h3 i j hik' hj, List.getElem?_append_left (by omega)]
          · obtain rfl : i = k := by omega
            rw [h6 j hj, List.getElem?_append_right (by omega), h1]
            simp
    obtain ⟨css, h1, h2, h3⟩ := key len0 (Nat.le_refl _)
    refine ⟨some a, len0, cap0, css, rfl, h1, hl, hm, h2, fun hC0 => ?_⟩
    have hfl : css.flatten.length = len0 * C := by rw [← h1]; exact flatten_len C css fun cs hcs => (h2 cs hcs).1
    have hfg : ∀ i j, i < len0 → j < C → css.flatten[i * C + j]? = (css[i]?.getD [])[j]? := fun i j hi' hj => flatten_at C css (fun cs hcs => (h2 cs hcs).1) i j (by omega) hj
    refine ⟨hfl, fun h0 => ?_⟩
    rw [hfl] at h0
    have hl0 : 0 < len0 := Nat.pos_of_mul_pos_right h0
    have hcell : ∀ q, q < len0 * C → w.cell? (a.add q) = css.flatten[q]? := by
      intro q hq
      have e : q = q / C * C + q % C := by rw [Nat.mul_comm]; exact (Nat.div_add_mod q C).symm
      have hq1 : q / C < len0 := Nat.div_lt_of_lt_mul (by rwa [Nat.mul_comm] at hq)
      have hq2 : q % C < C := Nat.mod_lt _ hC0
      rw [e, h3 _ _ hq1 hq2, hfg _ _ hq1 hq2]
    have h00 := hcell 0 h0
    have hsome : ∃ u, css.flatten[0]? = some u := ⟨css.flatten[0]'(by omega), List.getElem?_eq_getElem (by omega)⟩
    obtain ⟨u, hu⟩ := hsome
    rw [hu] at h00
    obtain ⟨b, off, spot⟩ := a
    have hs : spot = none := by simpa [Addr.add] using World.cell?_spot h00
    subst hs
    refine ⟨b, off, rfl, ?_, fun j u hju => ?_⟩
    · have := World.block_lt_of_cell? w _ h00
      simpa [Addr.add] using this
    · have hj : j < len0 * C := by
        have := (List.getElem?_eq_some_iff.1 hju).1
        omega
      have := hcell j hj
      rw [Addr.add_lit] at this
      rw [this, hju]
theorem bytes_cells {cs : List Value} {fuel : Nat} {x : DataW H × List MemPlace} (h : DataW.trod enc Try.prog w base spare held fuel 46 cs = some x) : ∃ v, cs = [v] ∧ repBytes w v := by
  rcases open_ints Try.underlying46 Try.underlying5 (by kernel_rfl) h with ⟨hcs, _⟩ | ⟨x, l, c, zs, hcs, _, hl, hm, hz, _, hcell, hwz⟩
  · exact ⟨_, hcs, none, 0, [], rfl, Reads.nil _ _ _ _, by simp, by simp⟩
  · have hlz : l ≤ zs.length := by rw [hz]; split <;> omega
    obtain ⟨bl, h1, h2⟩ := bytes_of_ints (B := w.heap.size) (Nat.le_refl _) hlz hcell hwz
    exact ⟨_, hcs, _, _, bl, by rw [h1], by rw [h1]; exact h2, by omega, hm⟩
theorem val_cells {cs : List Value} {fuel : Nat} {x : DataW H × List MemPlace} (h : DataW.trod enc Try.prog w base spare held fuel 76 cs = some x) : ∃ y, cs = valc y ∧ i64ok y.1 ∧ i64ok y.2.1 := by
  obtain ⟨xs, n, _, _, hlen, hxl, hf⟩ := DataW.trod_struct Try.underlying76 h
  have hC : Try.prog.cellsOf 76 = 3 := by kernel_rfl
  rw [hC] at hlen
  match cs, hlen with
  | [c0, c1, c2], _ =>
    have h0 := hf 0 _ rfl
    have h1 := hf 1 _ rfl
    have h2 := hf 2 _ rfl
    have e1 : Try.prog.cellsOf 3 = 1 := by kernel_rfl
    have e2 : Try.prog.cellsOf 2 = 1 := by kernel_rfl
    have e3 : Try.prog.cellsOf 9 = 1 := by kernel_rfl
    simp [e1, e2, e3] at h0 h1 h2
    have hxl' : xs.length = 3 := hxl
    rw [List.getElem?_eq_getElem (by omega)] at h0 h1 h2
    obtain ⟨a, ea, _, wa⟩ := DataW.trod_int Try.underlying3 h0
    obtain ⟨b, eb, _, wb⟩ := DataW.trod_int Try.underlying2 h1
    obtain ⟨s, es, _, _⟩ := DataW.trod_string Try.underlying9 h2
    simp at ea eb es
    subst ea eb es
    have h3 := bounds_i64 wa
    have h4 := bounds_i64 wb
    exact ⟨(a, b, s), rfl, (by show i64ok a; unfold i64ok; omega), (by show i64ok b; unfold i64ok; omega)⟩
theorem list_of_cells {α : Type} (f : α → List Value) (Ok : α → Prop) : ∀ css : List (List Value), (∀ cs ∈ css, ∃ y, cs = f y ∧ Ok y) → ∃ l : List α, l.length = css.length ∧ css = l.map f ∧ ∀ y ∈ l, Ok y
  | [], _ => ⟨[], rfl, rfl, by simp⟩
  | c :: css, h => by
    obtain ⟨y, rfl, hy⟩ := h c (by simp)
    obtain ⟨l, h1, h2, h3⟩ := list_of_cells f Ok css fun cs hcs => h cs (by simp [hcs])
    refine ⟨y :: l, by simp [h1], by simp [h2], ?_⟩
    intro z hz
    rcases List.mem_cons.1 hz with rfl | hz
    · exact hy
    · exact h3 z hz
theorem repVal_of (hv : Value.okWide Try.prog w r b0 76 v) (h : DataW.Trod enc Try.prog w base spare held 76 v d p) : repVal w v := by
  obtain ⟨cs, rfl, hsz⟩ := okWide_struct Try.underlying76 hv
  obtain ⟨fuel, hf⟩ := h
  obtain ⟨y, h1, h2, h3⟩ := val_cells hf
  obtain ⟨k, n, s⟩ := y
  refine ⟨k, n, s, ?_, h2, h3⟩
  have : cs.toList = valc (k, n, s) := by simpa [Value.cells] using h1
  obtain ⟨l⟩ := cs
  simp at this
  rw [this]
end
end Go.Proofs.Ytjcdgbnbaiebdaa

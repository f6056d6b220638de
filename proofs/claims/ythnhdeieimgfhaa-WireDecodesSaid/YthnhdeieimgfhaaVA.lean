/-
  What is known of a law's argument that can be read as data, by its type. Conditions: none.
-/
import Derived.Test.YthnhdeieimgfhaaPA
import Derived.ProofKit
import Derived.OpenShut
import Derived.ShutString
import Derived.ChangeOld
import Derived.Below
import Derived.Lib.SmallJoins
import Derived.Deep.Slices
import Derived.Deep.Fields
import Derived.Test.YthnhdeieimgfhaaMA
import Derived.Deep.RegionHeld3
import Derived.Deep.DrawnRows
import Derived.Deep.CutRange
import Derived.Deep.LoopGhost
import Derived.BigQuiet
import Derived.IntWalk
import Derived.Deep.QuietTactic
set_option maxRecDepth 100000
namespace Go.Proofs.Ythnhdeieimgfhaa
open Go Go.RowKit Go.ChangeShapes Go.WideShapes Go.ChangeAt
open Go.ChangeMaps (open_string shut_string)

set_option linter.unusedVariables false
def repU64 (_ : World) (v : Value) : Prop := ∃ n : Nat, v = .int .u64 (n : Int) ∧ n < 18446744073709551616
def repI64 (_ : World) (v : Value) : Prop := ∃ n : Int, v = .int .i64 n ∧ -9223372036854775808 ≤ n ∧ n ≤ 9223372036854775807
def repBytes (w : World) (v : Value) : Prop := ∃ (A : Option Addr) (c : Nat) (l : List UInt8), v = .slice A l.length c ∧ Reads w w.heap.size 1 A l.length (bys l) ∧ l.length ≤ c ∧ c ≤ maxLen
/-- The cells of a number, of a value. -/
abbrev u64c (n : Nat) : Value := .int .u64 (n : Int)
abbrev valc (x : Int × Int × ByteArray) : List Value := [.int .i64 x.1, .int .i64 x.2.1, .string x.2.2]
def i64ok (n : Int) : Prop := -9223372036854775808 ≤ n ∧ n ≤ 9223372036854775807
def repVal (_ : World) (v : Value) : Prop := ∃ (k n : Int) (s : ByteArray), v = vv k n s ∧ i64ok k ∧ i64ok n

theorem flatten_len {α : Type} (C : Nat) : ∀ (css : List (List α)), (∀ cs ∈ css, cs.length = C) → css.flatten.length = css.length * C
  | [], _ => by simp
  | c :: css, h => by
    simp only [List.flatten_cons, List.length_append, List.length_cons]
    rw [h c (by simp), flatten_len C css fun cs hcs => h cs (by simp [hcs]), Nat.succ_mul]
    omega
theorem flatten_at {α : Type} (C : Nat) : ∀ (css : List (List α)), (∀ cs ∈ css, cs.length = C) → ∀ i j, i < css.length → j < C → css.flatten[i * C + j]? = (css[i]?.getD [])[j]?
  | [], _, i, j, hi, _ => by simp at hi
  | c :: css, h, i, j, hi, hj => by
    have hc := h c (by simp)
    cases i with
    | zero => simp; rw [List.getElem?_append_left (by omega)]
    | succ i =>
      rw [List.flatten_cons, List.getElem?_append_right (by rw [hc, Nat.succ_mul]; omega)]
      simp only [List.getElem?_cons_succ]
      rw [← flatten_at C css (fun cs hcs => h cs (by simp [hcs])) i j (by simpa using hi) hj]
      congr 1
      rw [hc, Nat.succ_mul]
      omega

section
variable {H : Type} {enc : TypeId × Value → H} {w : World} {base : Nat} {r : Reach} {b0 : Nat} {spare : Nat → Bool} {held : Bool} {v : Value} {d : DataW H} {p : List MemPlace}
theorem repU64_of (hv : Value.okWide Try.prog w r b0 23 v) (h : DataW.Trod enc Try.prog w base spare held 23 v d p) : repU64 w v := by
  obtain ⟨a, rfl, rfl, rfl, hw⟩ := open_int Try.underlying23 hv h
  have hb := bounds_u64 hw
  exact ⟨a.toNat, by rw [Int.toNat_of_nonneg hb.1], by omega⟩
theorem repI64_of (hv : Value.okWide Try.prog w r b0 3 v) (h : DataW.Trod enc Try.prog w base spare held 3 v d p) : repI64 w v := by
  obtain ⟨a, rfl, rfl, rfl, hw⟩ := open_int Try.underlying3 hv h
  have hb := bounds_i64 hw
  exact ⟨a, rfl, by omega, by omega⟩
theorem bytes_of_ints {w : World} {B : Nat} {a : Addr} {len : Nat} {zs : List Int} (hB : w.heap.size ≤ B) (hl : len ≤ zs.length) (hc : ∀ i, i < zs.length → w.cell? (a.add i) = some (.int .u8 (zs.getD i 0))) (hw : ∀ n ∈ zs, (Lit.int .u8 n).wf = true) :
    ∃ l : List UInt8, l.length = len ∧ Reads w B 1 (some a) len (bys l) := by
  refine ⟨(zs.take len).map fun n => UInt8.ofNat n.toNat, by simp; omega, by simp; omega, fun h0 => ?_⟩
  simp at h0
  have hlen : 0 < zs.length := by omega
  have h1 := hc 0 hlen
  obtain ⟨b, off, spot⟩ := a
  have hs : spot = none := by simpa [Addr.add] using World.cell?_spot h1
  subst hs
  refine ⟨b, off, rfl, ?_, fun j u hu => ?_⟩
  · have := World.block_lt_of_cell? w _ h1
    simp [Addr.add] at this
    omega
  · have hj : j < len := by
      have := (List.getElem?_eq_some_iff.1 hu).1
      simp at this; omega
    have h2 := hc j (by omega)
    rw [Addr.add_lit] at h2
    rw [h2, ← hu]
    have hj2 : j < zs.length := by omega
    have hm := bounds_u8 (hw zs[j] (List.getElem_mem hj2))
    have h3 : (zs.take len)[j]? = some zs[j] := by rw [List.getElem?_take_of_lt hj, List.getElem?_eq_getElem hj2]
    have h4 : (UInt8.ofNat zs[j].toNat).toNat = zs[j].toNat := by simp; omega
    simp only [bys, List.getElem?_map, h3, Option.map_some, h4, List.getD_eq_getElem?_getD, List.getElem?_eq_getElem hj2, Option.getD_some]
    congr 2
    omega
theorem repBytes_of (hv : Value.okWide Try.prog w r b0 30 v) (h : DataW.Trod enc Try.prog w base spare held 30 v d p) : repBytes w v := by
  obtain ⟨a0, len0, cap0, rfl⟩ := okWide_slice Try.underlying30 hv
  obtain ⟨fuel, hf⟩ := h
  rcases open_ints Try.underlying30 Try.underlying5 (by kernel_rfl) hf with ⟨hcs, _⟩ | ⟨x, l, c, zs, hcs, _, hl, hm, hz, _, hcell, hwz⟩
  · simp [Value.cells] at hcs
    obtain ⟨rfl, rfl, rfl⟩ := hcs
    exact ⟨none, 0, [], rfl, Reads.nil _ _ _ _, by simp, by simp⟩
  · simp [Value.cells] at hcs
    obtain ⟨rfl, rfl, rfl⟩ := hcs
    have hlz : len0 ≤ zs.length := by rw [hz]; split <;> omega
    obtain ⟨bl, h1, h2⟩ := bytes_of_ints (B := w.heap.size) (Nat.le_refl _) hlz hcell hwz
    exact ⟨_, _, bl, by rw [h1], by rw [h1]; exact h2, by omega, hm⟩

/-- The cells of a slice whose elements have one cell, whatever they are. -/
theorem reads_of_slice {T E : TypeId} (hT : Try.prog.underlying T = some (.slice E)) (C : Nat) (hC : Try.prog.cellsOf E = C) (Rep : List Value → Prop)
    (hE : ∀ (fuel : Nat) (cs : List Value) (x : DataW H × List MemPlace), cs.length = C → DataW.trod enc Try.prog w base spare held fuel E cs = some x → Rep cs)
    (hv : Value.okWide Try.prog w r b0 T v) (h : DataW.Trod enc Try.prog w base spare held T v d p) :
    ∃ (A : Option Addr) (n c : Nat) (css : List (List Value)), v = .slice A n c ∧ css.length = n ∧ n ≤ c ∧ c ≤ maxLen ∧ (∀ cs ∈ css, cs.length = C ∧ Rep cs) ∧ (0 < C → Reads w w.heap.size C A n css.flatten) := by
  obtain ⟨a0, len0, cap0, rfl⟩ := okWide_slice hT hv
  obtain ⟨fuel, hf⟩ := h
  rcases Go.Deep.open_slice hT hf with ⟨hcs, _⟩ | ⟨a, len, cap, m, n, D, Pl, hcs, hb, hl, hm, hmm, hx, hi⟩
  · simp [Value.cells] at hcs
    obtain ⟨rfl, rfl, rfl⟩ := hcs
    exact ⟨none, 0, 0, [], rfl, rfl, by simp, by simp, by simp, fun _ => Reads.nil _ _ _ _⟩
  · simp [Value.cells] at hcs
    obtain ⟨rfl, rfl, rfl⟩ := hcs
    have hlm : len0 ≤ m := by rw [hmm]; split <;> omega
    have hex : ∀ i, i < len0 → ∃ cs, cs.length = C ∧ Rep cs ∧ ∀ j, j < C → w.cell? (a.add (i * C + j)) = cs[j]? := by
      intro i hil
      obtain ⟨cs', hc, ht⟩ := hi i (by omega)
      rw [hC] at hc
      obtain ⟨_, hcl, hat⟩ := World.cells?_some hc
      refine ⟨cs', hcl, hE _ _ _ hcl ht, fun j hj => ?_⟩
      rw [← Go.Deep.add_add]
      exact hat j hj
    have key : ∀ k, k ≤ len0 → ∃ css : List (List Value), css.length = k ∧ (∀ cs ∈ css, cs.length = C ∧ Rep cs) ∧ ∀ i j, i < k → j < C → w.cell? (a.add (i * C + j)) = (css[i]?.getD [])[j]? := by
      intro k
      induction k with
      | zero => intro _; exact ⟨[], rfl, by simp, by simp⟩
      | succ k ih =>
        intro hk
        obtain ⟨css, h1, h2, h3⟩ := ih (by omega)
        obtain ⟨cs, h4, h5, h6⟩ := hex k (by omega)
        refine ⟨css ++ [cs], by simp [h1], ?_, fun i j hik hj => ?_⟩
        · intro x hx
          rcases List.mem_append.1 hx with hx | hx
          · exact h2 x hx
          · simp at hx; subst hx; exact ⟨h4, h5⟩
        · by_cases hik' : i < k
          · rw [h3 i j hik' hj, List.getElem?_append_left (by omega)]
          · obtain rfl : i = k := by omega
            rw [h6 j hj, List.getElem?_append_right (by omega), h1]
            simp
    obtain ⟨css, h1, h2, h3⟩ := key len0 (Nat.le_refl _)
    refine ⟨some a, len0, cap0, css, rfl, h1, hl, hm, h2, fun hC0 => ?_⟩
    have hfl : css.flatten.length = len0 * C := by rw [← h1]; exact flatten_len C css fun cs hcs => (h2 cs hcs).1
    have hfg : ∀ i j, i < len0 → j < C → css.flatten[i * C + j]? = (css[i]?.getD [])[j]? := fun i j hi' hj => flatten_at C css (fun cs hcs => (h2 cs hcs).1) i j (by omega) hj
    refine ⟨hfl, fun h0 => ?_⟩
    rw [hfl] at h0
    have hl0 : 0 < len0 := Nat.pos_of_mul_pos_right h0
    have hcell : ∀ q, q < len0 * C → w.cell? (a.add q) = css.flatten[q]? := by
      intro q hq
      have e : q = q / C * C + q % C := by rw [Nat.mul_comm]; exact (Nat.div_add_mod q C).symm
      have hq1 : q / C < len0 := Nat.div_lt_of_lt_mul (by rwa [Nat.mul_comm] at hq)
      have hq2 : q % C < C := Nat.mod_lt _ hC0
      rw [e, h3 _ _ hq1 hq2, hfg _ _ hq1 hq2]
    have h00 := hcell 0 h0
    have hsome : ∃ u, css.flatten[0]? = some u := ⟨css.flatten[0]'(by omega), List.getElem?_eq_getElem (by omega)⟩
    obtain ⟨u, hu⟩ := hsome
    rw [hu] at h00
    obtain ⟨b, off, spot⟩ := a
    have hs : spot = none := by simpa [Addr.add] using World.cell?_spot h00
    subst hs
    refine ⟨b, off, rfl, ?_, fun j u hju => ?_⟩
    · have := World.block_lt_of_cell? w _ h00
      simpa [Addr.add] using this
    · have hj : j < len0 * C := by
        have := (List.getElem?_eq_some_iff.1 hju).1
        omega
      have := hcell j hj
      rw [Addr.add_lit] at this
      rw [this, hju]
theorem bytes_cells {cs : List Value} {fuel : Nat} {x : DataW H × List MemPlace} (h : DataW.trod enc Try.prog w base spare held fuel 30 cs = some x) : ∃ v, cs = [v] ∧ repBytes w v := by
  rcases open_ints Try.underlying30 Try.underlying5 (by kernel_rfl) h with ⟨hcs, _⟩ | ⟨x, l, c, zs, hcs, _, hl, hm, hz, _, hcell, hwz⟩
  · exact ⟨_, hcs, none, 0, [], rfl, Reads.nil _ _ _ _, by simp, by simp⟩
  · have hlz : l ≤ zs.length := by rw [hz]; split <;> omega
    obtain ⟨bl, h1, h2⟩ := bytes_of_ints (B := w.heap.size) (Nat.le_refl _) hlz hcell hwz
    exact ⟨_, hcs, _, _, bl, by rw [h1], by rw [h1]; exact h2, by omega, hm⟩
theorem val_cells {cs : List Value} {fuel : Nat} {x : DataW H × List MemPlace} (h : DataW.trod enc Try.prog w base spare held fuel 156 cs = some x) : ∃ y, cs = valc y ∧ i64ok y.1 ∧ i64ok y.2.1 := by
  obtain ⟨xs, n, _, _, hlen, hxl, hf⟩ := DataW.trod_struct Try.underlying156 h
  have hC : Try.prog.cellsOf 156 = 3 := by kernel_rfl
  rw [hC] at hlen
  match cs, hlen with
  | [c0, c1, c2], _ =>
    have h0 := hf 0 _ rfl
    have h1 := hf 1 _ rfl
    have h2 := hf 2 _ rfl
    have e1 : Try.prog.cellsOf 3 = 1 := by kernel_rfl
    have e2 : Try.prog.cellsOf 2 = 1 := by kernel_rfl
    have e3 : Try.prog.cellsOf 9 = 1 := by kernel_rfl
    simp [e1, e2, e3] at h0 h1 h2
    have hxl' : xs.length = 3 := hxl
    rw [List.getElem?_eq_getElem (by omega)] at h0 h1 h2
    obtain ⟨a, ea, _, wa⟩ := DataW.trod_int Try.underlying3 h0
    obtain ⟨b, eb, _, wb⟩ := DataW.trod_int Try.underlying2 h1
    obtain ⟨s, es, _, _⟩ := DataW.trod_string Try.underlying9 h2
    simp at ea eb es
    subst ea eb es
    have h3 := bounds_i64 wa
    have h4 := bounds_i64 wb
    exact ⟨(a, b, s), rfl, (by show i64ok a; unfold i64ok; omega), (by show i64ok b; unfold i64ok; omega)⟩
theorem list_of_cells {α : Type} (f : α → List Value) (Ok : α → Prop) : ∀ css : List (List Value), (∀ cs ∈ css, ∃ y, cs = f y ∧ Ok y) → ∃ l : List α, l.length = css.length ∧ css = l.map f ∧ ∀ y ∈ l, Ok y
  | [], _ => ⟨[], rfl, rfl, by simp⟩
  | c :: css, h => by
    obtain ⟨y, rfl, hy⟩ := h c (by simp)
    obtain ⟨l, h1, h2, h3⟩ := list_of_cells f Ok css fun cs hcs => h cs (by simp [hcs])
    refine ⟨y :: l, by simp [h1], by simp [h2], ?_⟩
    intro z hz
    rcases List.mem_cons.1 hz with rfl | hz
    · exact hy
    · exact h3 z hz
theorem repVal_of (hv : Value.okWide Try.prog w r b0 156 v) (h : DataW.Trod enc Try.prog w base spare held 156 v d p) : repVal w v := by
  obtain ⟨cs, rfl, hsz⟩ := okWide_struct Try.underlying156 hv
  obtain ⟨fuel, hf⟩ := h
  obtain ⟨y, h1, h2, h3⟩ := val_cells hf
  obtain ⟨k, n, s⟩ := y
  refine ⟨k, n, s, ?_, h2, h3⟩
  have : cs.toList = valc (k, n, s) := by simpa [Value.cells] using h1
  obtain ⟨l⟩ := cs
  simp at this
  rw [this]
end
end Go.Proofs.Ythnhdeieimgfhaa

/-
  What is known of an argument of type api.Event: its attributes, four cells each. Conditions: none.
-/
set_option maxRecDepth 100000
namespace Go.Proofs.Ythnhdeieimgfhaa
open Go Go.RowKit Go.ChangeShapes Go.WideShapes Go.ChangeAt
open Go.ChangeMaps (open_string shut_string)

/-- An attribute: its name, its value's kind, number and text. -/
abbrev Att := ByteArray × Int × Int × ByteArray
abbrev attc (x : Att) : List Value := [.string x.1, .int .i64 x.2.1, .int .i64 x.2.2.1, .string x.2.2.2]
def repEvent (w : World) (v : Value) : Prop := ∃ (A : Option Addr) (c : Nat) (l : List Att), v = .slice A l.length c ∧ Reads w w.heap.size 4 A l.length (l.flatMap attc) ∧ (∀ x ∈ l, i64ok x.2.1 ∧ i64ok x.2.2.1) ∧ l.length ≤ c ∧ c ≤ maxLen

def repStr (_ : World) (v : Value) : Prop := ∃ s : ByteArray, v = .string s
def repU8 (_ : World) (v : Value) : Prop := ∃ b : UInt8, v = .int .u8 (b.toNat : Int)

section
variable {H : Type} {enc : TypeId × Value → H} {w : World} {base : Nat} {r : Reach} {b0 : Nat} {spare : Nat → Bool} {held : Bool} {v : Value} {d : DataW H} {p : List MemPlace}
theorem att_cells {cs : List Value} {fuel : Nat} {x : DataW H × List MemPlace} (h : DataW.trod enc Try.prog w base spare held fuel 158 cs = some x) : ∃ y : Att, cs = attc y ∧ i64ok y.2.1 ∧ i64ok y.2.2.1 := by
  obtain ⟨xs, n, _, _, hlen, hxl, hf⟩ := DataW.trod_struct Try.underlying158 h
  have hC : Try.prog.cellsOf 158 = 4 := by kernel_rfl
  rw [hC] at hlen
  match cs, hlen with
  | [c0, c1, c2, c3], _ =>
    have h0 := hf 0 _ rfl
    have h1 := hf 1 _ rfl
    have e1 : Try.prog.cellsOf 9 = 1 := by kernel_rfl
    have e2 : Try.prog.cellsOf 156 = 3 := by kernel_rfl
    simp [e1, e2] at h0 h1
    have hxl' : xs.length = 2 := hxl
    rw [List.getElem?_eq_getElem (by omega)] at h0 h1
    obtain ⟨s, es, _, _⟩ := DataW.trod_string Try.underlying9 h0
    obtain ⟨y, ey, w1, w2⟩ := val_cells h1
    simp at es ey
    obtain ⟨rfl, rfl, rfl⟩ := ey
    subst es
    exact ⟨(s, y), rfl, w1, w2⟩
theorem repEvent_of (hv : Value.okWide Try.prog w r b0 124 v) (h : DataW.Trod enc Try.prog w base spare held 124 v d p) : repEvent w v := by
  obtain ⟨A, n, c, css, rfl, h1, h2, h3, h4, h5⟩ := reads_of_slice Try.underlying124 4 (by kernel_rfl) (fun cs => ∃ y : Att, cs = attc y ∧ i64ok y.2.1 ∧ i64ok y.2.2.1) (fun _ _ _ _ ht => att_cells ht) hv h
  obtain ⟨l, h6, h7, h8⟩ := list_of_cells attc (fun y : Att => i64ok y.2.1 ∧ i64ok y.2.2.1) css fun cs hcs => (h4 cs hcs).2
  have h9 := h5 (by decide)
  subst h1
  rw [← h6] at h9 h2 ⊢
  refine ⟨A, c, l, rfl, ?_, h8, h2, h3⟩
  rw [h7] at h9
  rwa [List.flatMap_def]
theorem repStr_of (hv : Value.okWide Try.prog w r b0 9 v) (h : DataW.Trod enc Try.prog w base spare held 9 v d p) : repStr w v := by
  obtain ⟨a, rfl, _⟩ := open_string Try.underlying9 hv h
  exact ⟨a, rfl⟩
theorem repU8_of (hv : Value.okWide Try.prog w r b0 5 v) (h : DataW.Trod enc Try.prog w base spare held 5 v d p) : repU8 w v := by
  obtain ⟨a, rfl, rfl, rfl, hw⟩ := open_int Try.underlying5 hv h
  have hb := bounds_u8 hw
  refine ⟨UInt8.ofNat a.toNat, ?_⟩
  have : (UInt8.ofNat a.toNat).toNat = a.toNat := by simp; omega
  rw [this, Int.toNat_of_nonneg hb.1]
end
end Go.Proofs.Ythnhdeieimgfhaa

/-
  The walk of value.Int, and bytes made into a text. Conditions: none.
-/
set_option maxRecDepth 100000
namespace Go.Proofs.Ythnhdeieimgfhaa
open Go Go.RowKit

theorem str {w : World} {v : Value} {l : List UInt8} (h : sl l v w) : (convert 30 9 v).run Try.prog w = .ok (.string ⟨l.toArray⟩) w :=
  run_sl _ _ _ Try.underlying30 Try.underlying5 Try.underlying9 h
end Go.Proofs.Ythnhdeieimgfhaa

/-
  The walks of event.Name and of the document's Name (layer 4). Conditions: none.
-/
set_option maxRecDepth 100000
namespace Go.Proofs.Ythnhdeieimgfhaa
open Go Go.RowKit

/-- Whether a byte may stand in a name; whether a name may be. -/
def okCh (b : UInt8) : Bool := (decide (97 ≤ b.toNat) && decide (b.toNat ≤ 122)) || (decide (48 ≤ b.toNat) && decide (b.toNat ≤ 57))
def okName (s : ByteArray) : Bool := decide (1 ≤ s.size) && decide (s.size ≤ 16) && (byt s).all okCh

theorem all_take (l : List UInt8) (k : Nat) (h : k < l.length) : (l.take (k + 1)).all okCh = ((l.take k).all okCh && okCh l[k]) := by
  rw [List.take_succ_eq_append_getElem h, List.all_append]; simp
theorem all_not (l : List UInt8) (k : Nat) (h : k < l.length) (hb : okCh l[k] = false) : l.all okCh = false := by
  rw [List.all_eq_false]
  exact ⟨l[k], List.getElem_mem h, by simp [hb]⟩

set_option maxHeartbeats 1000000 in
theorem Name_calls (s : ByteArray) (w : World) :
    Calls Try.prog 118 #[.string s] w fun e w' => e = .returned (.bool (okName s)) ∧ w = w' := by
  by_cases h1 : s.size < 1
  · have h1' : (s.size : Int) < 1 := by omega
    have hn : Hid (okName s = false) := Lib.hid (by simp [okName]; omega)
    go_enter Try.func118, Try.ntmps118
    go_wp2
    go_ret
    exact ⟨by rw [hn.out]; rfl, rfl⟩
  have h1' : ¬ (s.size : Int) < 1 := by omega
  by_cases h16 : 16 < s.size
  · have h16' : (16 : Int) < (s.size : Int) := by omega
    have hn : Hid (okName s = false) := Lib.hid (by simp [okName]; omega)
    go_enter Try.func118, Try.ntmps118
    go_wp2
    go_ret
    exact ⟨by rw [hn.out]; rfl, rfl⟩
  have h16' : ¬ (16 : Int) < (s.size : Int) := by omega
  have hlen : (byt s).length = s.size := by show s.data.toList.length = s.data.size; simp
  go_enter Try.func118, Try.ntmps118
  go_wp2_with fail
  go_loopw [15] (fun i wr => ∃ k : Nat, k ≤ s.size ∧ i = .int .i64 (k : Int) ∧ Hid (((byt s).take k).all okCh = true) ∧ wr = w) (fun i _ => s.size - (intOf i).toNat)
  case atStart => exact ⟨0, by omega, rfl, Lib.hid (by simp), rfl⟩
  case round =>
    obtain ⟨k, hk, rfl, hall, rfl⟩ := hrel
    by_cases hlt : k < s.size
    · have hki : (k : Int) < (s.size : Int) := by omega
      have hkb : k < (byt s).length := by omega
      have hT := Lib.hid (all_take (byt s) k hkb)
      have hF := Lib.hid (all_not (byt s) k hkb)
      have hget : s[k] = (byt s)[k] := by simp [byt]; rfl
      generalize (byt s)[k] = x at *
      have hx256 : x.toNat < 256 := x.toNat_lt
      go_upto_if 34 with (fail)
      all_goals
        go_wp2
        all_goals first
          | (go_ret
             have hx : okCh x = false := by simp [okCh]; omega
             exact ⟨by rw [show okName s = false by simp [okName, hF.out hx]]; rfl, rfl⟩)
          | (have hx : okCh x = true := by simp [okCh]; omega
             have hr : Hid (((byt s).take (k + 1)).all okCh = true) := Lib.hid (by rw [hT.out, hall.out, hx]; rfl)
             go_roundw
             case rel => exact ⟨k + 1, by omega, by go_num, hr, by trivial⟩
             case measure => simp [intOf]; omega)
    · have hki : ¬ (k : Int) < (s.size : Int) := by omega
      have hks : k = s.size := by omega
      have hn : Hid (okName s = true) := by
        have := hall.out
        rw [hks, ← hlen, List.take_length] at this
        exact Lib.hid (by simp only [okName, this]; simp; omega)
      clear hks
      go_wp2
      go_ret
      exact ⟨by rw [hn.out]; rfl, rfl⟩

end Go.Proofs.Ythnhdeieimgfhaa

/-
  Events: what may be, in plain Lean; an attribute's cells; the walks of event.Check and of the document's Check (layer 4). Conditions: none.
-/
set_option maxRecDepth 100000
namespace Go.Proofs.Ythnhdeieimgfhaa
open Go Go.RowKit

/-- Whether an attribute may be, but for its place. -/
def okA (x : Att) : Bool := okName x.1 && okV x.2.1 x.2.2.1 x.2.2.2
/-- Whether a text comes before another one. -/
def ltS (a b : ByteArray) : Bool := Op.bytesLess a.toList b.toList
theorem less_eq : ∀ x y : List UInt8, Op.bytesLess x y = decide (x < y)
  | [], [] => by simp [Op.bytesLess]
  | _ :: _, [] => by simp [Op.bytesLess]
  | [], _ :: _ => by simp [Op.bytesLess]
  | a :: x, b :: y => by
    rw [Op.bytesLess, less_eq x y]
    simp only [List.cons_lt_cons_iff]
    by_cases h1 : a < b <;> by_cases h2 : a = b <;> simp [h1, h2]
theorem ltS_iff (a b : ByteArray) : ltS a b = true ↔ byt a < byt b := by
  unfold ltS; rw [less_eq, ByteArray.toList_eq, ByteArray.toList_eq]; simp
theorem byt_inj {a b : ByteArray} (h : byt a = byt b) : a = b := by
  cases a; cases b; simp only [ByteArray.mk.injEq]; exact Array.toList_inj.1 h
theorem byt_beq (a b : ByteArray) : (a.toList == b.toList) = decide (a = b) := by
  rw [ByteArray.toList_eq, ByteArray.toList_eq]
  by_cases h : a = b
  · subst h; simp
  · rw [beq_eq_false_iff_ne.2 (fun e => h (byt_inj e))]; simp [h]
theorem ltS_irrefl (a : ByteArray) : ltS a a = false := by
  rw [Bool.eq_false_iff, Ne, ltS_iff]; exact List.lt_irrefl _
theorem ltS_trans {a b c : ByteArray} (h : ltS a b = true) (k : ltS b c = true) : ltS a c = true := by
  rw [ltS_iff] at *; exact List.lt_trans h k
theorem ltS_tri (a b : ByteArray) : (Op.bytesLess a.toList b.toList || a.toList == b.toList) = !ltS b a := by
  have h1 : Op.bytesLess a.toList b.toList = ltS a b := rfl
  rw [h1, byt_beq]
  by_cases e : a = b
  · subst e; simp [ltS_irrefl]
  · cases h : ltS a b
    · cases k : ltS b a
      · exfalso
        have n1 : ¬ byt a < byt b := fun x => by rw [(ltS_iff a b).2 x] at h; cases h
        have n2 : ¬ byt b < byt a := fun x => by rw [(ltS_iff b a).2 x] at k; cases k
        exact e (byt_inj (List.le_antisymm (List.not_lt.1 n2) (List.not_lt.1 n1)))
      · simp [e]
    · cases k : ltS b a
      · simp
      · have := ltS_trans h k; rw [ltS_irrefl] at this; cases this

def lastN : Option ByteArray → List Att → Option ByteArray
  | p, [] => p
  | _, x :: r => lastN (some x.1) r
def behind (p : Option ByteArray) (s : ByteArray) : Bool := match p with | none => true | some y => ltS y s
/-- Whether attributes may stand behind one that has this name. -/
def okL : Option ByteArray → List Att → Bool
  | _, [] => true
  | p, x :: r => okA x && behind p x.1 && okL (some x.1) r
/-- Whether an event may be. -/
def okE (l : List Att) : Bool := decide (1 ≤ l.length) && decide (l.length ≤ 16) && okL none l
def chkE (l : List Att) : Int := if okE l then 0 else 40

theorem lastN_append (p : Option ByteArray) (a b : List Att) : lastN p (a ++ b) = lastN (lastN p a) b := by
  induction a generalizing p with
  | nil => rfl
  | cons x a ih => simp only [List.cons_append, lastN]; exact ih _
theorem okL_append (p : Option ByteArray) (a b : List Att) : okL p (a ++ b) = (okL p a && okL (lastN p a) b) := by
  induction a generalizing p with
  | nil => simp [okL, lastN]
  | cons x a ih => simp only [List.cons_append, okL, lastN, ih, Bool.and_assoc]
theorem lastN_take (l : List Att) (k : Nat) (h : k < l.length) : lastN none (l.take (k + 1)) = some l[k].1 := by
  rw [List.take_succ_eq_append_getElem h, lastN_append]; rfl
theorem okL_zero (l : List Att) (h : 0 < l.length) : okL none (l.take 1) = okA l[0] := by
  rw [List.take_succ_eq_append_getElem h]; simp [okL, behind]
theorem okL_succ (l : List Att) (k : Nat) (h : k + 1 < l.length) : okL none (l.take (k + 1 + 1)) = (okL none (l.take (k + 1)) && (okA l[k + 1] && ltS (l[k]'(by omega)).1 l[k + 1].1)) := by
  rw [List.take_succ_eq_append_getElem h, okL_append, lastN_take l k (by omega)]; simp [okL, behind]
theorem okL_bad (l : List Att) (k : Nat) (h : okL none (l.take k) = false) : okL none l = false := by
  have := okL_append none (l.take k) (l.drop k)
  rw [List.take_append_drop, h] at this
  simpa using this
theorem okE_bad (l : List Att) (k : Nat) (h : okL none (l.take k) = false) : chkE l = 40 := by simp [chkE, okE, okL_bad l k h]
theorem okE_good (l : List Att) (h1 : 1 ≤ l.length) (h2 : l.length ≤ 16) (h : okL none (l.take l.length) = true) : chkE l = 0 := by
  rw [List.take_length] at h
  simp [chkE, okE, h, h1, h2]

/-- An attribute as one value. -/
abbrev attv (x : Att) : Value := .agg #[.string x.1, .int .i64 x.2.1, .int .i64 x.2.2.1, .string x.2.2.2]
theorem atts_at (l : List Att) (k : Nat) (hk : k < l.length) : ∀ j, (hj : j < 4) → (l.flatMap attc)[k * 4 + j]? = some ((attc l[k])[j]'hj) := by
  intro j hj
  rw [List.flatMap_def, flatten_at 4 _ (by intro cs hcs; obtain ⟨y, _, rfl⟩ := List.mem_map.1 hcs; rfl) k j (by simpa using hk) hj]
  simp [hk]
theorem atts_len (l : List Att) : (l.flatMap attc).length = l.length * 4 := by
  rw [List.flatMap_def, flatten_len 4 _ (by intro cs hcs; obtain ⟨y, _, rfl⟩ := List.mem_map.1 hcs; rfl)]; simp
/-- An event that reads as attributes: where they lie. -/
theorem Reads.atts {w : World} {B n : Nat} {A : Option Addr} {l : List Att} (h : Reads w B 4 A n (l.flatMap attc)) (hl : 0 < l.length) :
    ∃ b off, A = some ⟨b, off, none⟩ ∧ b < B ∧ ∀ k (hk : k < l.length), w.cell? ⟨b, off + k * 4, none⟩ = some (.string l[k].1) ∧ w.cell? ⟨b, off + k * 4 + 1, none⟩ = some (.int .i64 l[k].2.1) ∧
      w.cell? ⟨b, off + k * 4 + 2, none⟩ = some (.int .i64 l[k].2.2.1) ∧ w.cell? ⟨b, off + k * 4 + 3, none⟩ = some (.string l[k].2.2.2) := by
  obtain ⟨b, off, e, hb, hc⟩ := h.2 (by rw [atts_len]; omega)
  refine ⟨b, off, e, hb, fun k hk => ?_⟩
  have h0 := hc _ _ (atts_at l k hk 0 (by decide))
  have h1 := hc _ _ (atts_at l k hk 1 (by decide))
  have h2 := hc _ _ (atts_at l k hk 2 (by decide))
  have h3 := hc _ _ (atts_at l k hk 3 (by decide))
  simp only [Nat.add_zero, ← Nat.add_assoc] at h0 h1 h2 h3
  exact ⟨h0, h1, h2, h3⟩
theorem Reads.attn {w : World} {B n : Nat} {A : Option Addr} {l : List Att} (h : Reads w B 4 A n (l.flatMap attc)) : n = l.length := by
  have := h.1; rw [atts_len] at this; omega

theorem below_drewN {B : Nat} {w w' : World} (h : Below B w w') (n : Nat) : Below B w (w'.drewN n) := by
  induction n with
  | zero => exact h
  | succ n ih => exact ⟨h.os, h.tape, h.output, h.size, h.block⟩

/-- A slice that reads as an event. -/
def evt (l : List Att) (v : Value) (w : World) : Prop := ∃ A c, v = .slice A l.length c ∧ Reads w w.heap.size 4 A l.length (l.flatMap attc)
theorem evt_st (l : List Att) : ∀ v w w', evt l v w → Below w.heap.size w w' → evt l v w' := by
  rintro v w w' ⟨A, c, rfl, hr⟩ hb
  exact ⟨A, c, rfl, (hr.below hb (Nat.le_refl _)).more hb.size⟩
/-- A slice of bytes, with its room. -/
def slc (B : Nat) (l : List UInt8) (v : Value) (w : World) : Prop := ∃ A c, v = .slice A l.length c ∧ Reads w B 1 A l.length (bys l) ∧ l.length ≤ c

/-- A slice of bytes that was there, with its room. -/
def bsl (l : List UInt8) (v : Value) (w : World) : Prop := slc w.heap.size l v w
theorem bsl_st (l : List UInt8) : ∀ v w w', bsl l v w → Below w.heap.size w w' → bsl l v w' := by
  rintro v w w' ⟨A, c, rfl, hr, hc⟩ hb
  exact ⟨A, c, rfl, (hr.below hb (Nat.le_refl _)).more hb.size, hc⟩
theorem bsl_sl {l : List UInt8} {v : Value} {w : World} (h : bsl l v w) : sl l v w := by
  obtain ⟨A, c, rfl, hr, _⟩ := h
  exact ⟨A, c, rfl, hr⟩
theorem bsl_rep {w : World} {v : Value} (h : repBytes w v) : ∃ l : List UInt8, bsl l v w := by
  obtain ⟨A, c, l, rfl, h1, h2, _⟩ := h
  exact ⟨l, A, c, rfl, h1, h2⟩
theorem bsl_own {w : World} {base : Nat} {e : TypeId} {v : Value} {l : List UInt8} (h : Own w base e v l) : bsl l v w := by
  have h' := h
  rcases h.2 with ⟨rfl, h0⟩ | ⟨g, cap, cur, rfl, _, _, hn, _⟩
  · obtain rfl : l = [] := List.eq_nil_of_length_eq_zero h0
    exact ⟨none, 0, rfl, Reads.of_own h', by simp⟩
  · exact ⟨_, _, rfl, Reads.of_own h', hn⟩
theorem bsl_len {b : List UInt8} {v : Value} {w : World} (h : bsl b v w) : ∃ A c, v = .slice A b.length c := by
  obtain ⟨A, c, rfl, _⟩ := h
  exact ⟨A, c, rfl⟩
end Go.Proofs.Ythnhdeieimgfhaa

/-
  The walk of event.Check (layer 4). Conditions: none.
-/
set_option maxRecDepth 100000
namespace Go.Proofs.Ythnhdeieimgfhaa
open Go Go.RowKit

set_option maxHeartbeats 2000000 in
theorem ECheck_calls (A : Option Addr) (c : Nat) (l : List Att) (w : World) (B : Nat) (hR : Reads w B 4 A l.length (l.flatMap attc)) (hB : B ≤ w.heap.size) :
    Calls Try.prog 85 #[.slice A l.length c] w fun e w' => e = .returned (.int .i64 (chkE l)) ∧ Below w.heap.size w w' := by
  by_cases h1 : l.length < 1
  · have h1' : (l.length : Int) < 1 := by omega
    have HE : Hid (chkE l = 40) := Lib.hid (by simp [chkE, okE, show ¬ 1 ≤ l.length by omega])
    clear hR
    generalize l.length = n at *
    go_enter Try.func85, Try.ntmps85
    go_wp2
    go_step3
    go_wp2
    rw [Exit.noGoto_ret]
    go_ret
    exact ⟨by rw [HE.out]; rfl, Below.refl _ _⟩
  have h1' : ¬ (l.length : Int) < 1 := by omega
  by_cases h16 : 16 < l.length
  · have h16' : (16 : Int) < (l.length : Int) := by omega
    have HE : Hid (chkE l = 40) := Lib.hid (by simp [chkE, okE]; omega)
    clear hR
    generalize l.length = n at *
    go_enter Try.func85, Try.ntmps85
    go_wp2
    go_step3
    go_wp2
    rw [Exit.noGoto_ret]
    go_ret
    exact ⟨by rw [HE.out]; rfl, Below.refl _ _⟩
  have h16' : ¬ (16 : Int) < (l.length : Int) := by omega
  obtain ⟨b, off, rfl, hbB, hcell⟩ := hR.atts (by omega)
  have HC := Lib.hid hcell
  clear hcell hR
  go_enter Try.func85, Try.ntmps85
  go_wp2
  go_step3
  go_wp2_with fail
  go_step3
  go_wp2_with fail
  go_loopw [3, 16] (fun m i wr => ∃ k : Nat, k ≤ l.length ∧ m = .int .i64 (k : Int) ∧ i = .int .i64 (k : Int) ∧ Hid (okL none (l.take k) = true) ∧ Below w.heap.size w wr) (fun _ i _ => l.length - (intOf i).toNat)
  case atStart => exact ⟨0, by omega, rfl, rfl, Lib.hid (by simp [okL]), Below.refl _ _⟩
  case round =>
    obtain ⟨k, hk, rfl, rfl, hall, hb⟩ := hrel
    by_cases hlt : k < l.length
    · have hki : (k : Int) < (l.length : Int) := by omega
      obtain ⟨e0, e1, e2, e3⟩ := HC.out k hlt
      have d0 := (hb.cell (p := ⟨b, off + k * 4, none⟩) (Nat.lt_of_lt_of_le hbB hB)).trans e0
      have d1 := (hb.cell (p := ⟨b, off + k * 4 + 1, none⟩) (Nat.lt_of_lt_of_le hbB hB)).trans e1
      have d2 := (hb.cell (p := ⟨b, off + k * 4 + 2, none⟩) (Nat.lt_of_lt_of_le hbB hB)).trans e2
      have d3 := (hb.cell (p := ⟨b, off + k * 4 + 3, none⟩) (Nat.lt_of_lt_of_le hbB hB)).trans e3
      clear e0 e1 e2 e3
      have hz := hb.size
      have hzz : b < wr.heap.size := by omega
      have hbad : Hid (okL none (l.take (k + 1)) = false → chkE l = 40) := Lib.hid (okE_bad l (k + 1))
      have hend : ∀ W, Below wr.heap.size wr W → Below w.heap.size w W := fun W h => hb.trans (h.mono hz)
      have hend := Lib.hid hend
      rcases Nat.eq_zero_or_pos k with h0 | h0
      · have hT : Hid (okL none (l.take (k + 1)) = okA l[k]) := by subst h0; exact Lib.hid (okL_zero l hlt)
        have hk0 : ¬ (0 : Int) < (k : Int) := by omega
        have hd0 : decide (0 < k) = false := by simp; omega
        clear h0
        generalize l[k] = x at *
        obtain ⟨s, vk, vn, vs⟩ := x
        simp only at d0 d1 d2 d3
        go_wp2_with fail
        refine (Name_calls s _).mono ?_
        rintro e w' ⟨rfl, rfl⟩
        cases hn : okName s
        · go_wp2
          rw [Exit.noGoto_ret]
          go_ret
          exact ⟨by rw [hbad.out (by rw [hT.out]; simp [okA, hn])]; rfl, hend.out _ ((Below.refl _ _).alloc (Nat.le_refl _) _)⟩
        · go_wp2_with fail
          refine (Check_calls vk vn vs _).mono ?_
          rintro e w2 ⟨rfl, hb2⟩
          have hbx : Below wr.heap.size wr w2 := ((Below.refl _ _).alloc (Nat.le_refl _) _).trans (hb2.mono (by simp))
          have hx2 := (Blk.new wr 158 #[.string s, .int .i64 vk, .int .i64 vn, .string vs]).below hb2 (by simp)
          clear hb2
          cases hv : okV vk vn vs
          · have hch : (chk vk vn vs != 0) = true := by simp [chk, hv]
            go_wp2
            rw [Exit.noGoto_ret]
            go_ret
            exact ⟨by rw [hbad.out (by rw [hT.out]; simp [okA, hv])]; rfl, hend.out _ hbx⟩
          · have hch : (chk vk vn vs != 0) = false := by simp [chk, hv]
            have q0 := hx2.cell 0
            simp at q0
            go_wp2_with fail
            go_quiet (fail)
            have hr : Hid (okL none (l.take (k + 1)) = true) := Lib.hid (by rw [hT.out]; simp [okA, hn, hv])
            go_wp2
            go_roundw
            case rel => exact ⟨k + 1, by omega, by go_num, by go_num, hr, hend.out _ (below_drewN hbx _)⟩
            case measure => simp [intOf]; omega
      · have hk0 : (0 : Int) < (k : Int) := by omega
        have hd0 : decide (0 < k) = true := by simp; omega
        have hkp : k - 1 < l.length := by omega
        have hT : Hid (okL none (l.take (k + 1)) = (okL none (l.take k) && (okA l[k] && ltS l[k - 1].1 l[k].1))) := by
          refine Lib.hid ?_
          obtain ⟨j, rfl⟩ : ∃ j, k = j + 1 := ⟨k - 1, by omega⟩
          exact okL_succ l j hlt
        obtain ⟨e0, _⟩ := HC.out (k - 1) hkp
        have p0 := (hb.cell (p := ⟨b, off + (k - 1) * 4, none⟩) (Nat.lt_of_lt_of_le hbB hB)).trans e0
        clear e0
        generalize l[k - 1].1 = y at *
        generalize l[k] = x at *
        obtain ⟨s, vk, vn, vs⟩ := x
        simp only at d0 d1 d2 d3 hT
        go_wp2_with fail
        refine (Name_calls s _).mono ?_
        rintro e w' ⟨rfl, rfl⟩
        cases hn : okName s
        · go_wp2
          rw [Exit.noGoto_ret]
          go_ret
          exact ⟨by rw [hbad.out (by rw [hT.out]; simp [okA, hn])]; rfl, hend.out _ ((Below.refl _ _).alloc (Nat.le_refl _) _)⟩
        · go_wp2_with fail
          refine (Check_calls vk vn vs _).mono ?_
          rintro e w2 ⟨rfl, hb2⟩
          have hbx : Below wr.heap.size wr w2 := ((Below.refl _ _).alloc (Nat.le_refl _) _).trans (hb2.mono (by simp))
          have hx2 := (Blk.new wr 158 #[.string s, .int .i64 vk, .int .i64 vn, .string vs]).below hb2 (by simp)
          clear hb2
          cases hv : okV vk vn vs
          · have hch : (chk vk vn vs != 0) = true := by simp [chk, hv]
            go_wp2
            rw [Exit.noGoto_ret]
            go_ret
            exact ⟨by rw [hbad.out (by rw [hT.out]; simp [okA, hv])]; rfl, hend.out _ hbx⟩
          · have hch : (chk vk vn vs != 0) = false := by simp [chk, hv]
            have q0 := hx2.cell 0
            simp at q0
            have p1 : w2.cell? ⟨b, off + (k - 1) * 4, none⟩ = some (.string y) := (hbx.cell hzz).trans p0
            have hw1 : IntKind.i64.wrap ((k : Int) - 1) = (k : Int) - 1 := IntWalk.i64_in _ (by omega)
            have hp1 : (1 : Int) ≤ (k : Int) := by omega
            have hp2 : ((k : Int) - 1).toNat = k - 1 := by omega
            have hp3 : (k : Int) - 1 < (l.length : Int) := by omega
            have hbk : b < w2.heap.size := by have := hbx.size; omega
            cases hls : ltS y s
            · have hls' : (!(Op.bytesLess y.toList s.toList)) = true := by unfold ltS at hls; simp [hls]
              have HB : Hid (chkE l = 40) := Lib.hid (hbad.out (by rw [hT.out]; simp [okA, hls]))
              go_wp2_with fail
              go_quiet (fail)
              go_wp2
              rw [Exit.noGoto_ret]
              go_ret
              exact ⟨by rw [HB.out]; rfl, hend.out _ (below_drewN hbx _)⟩
            · have hls' : (!(Op.bytesLess y.toList s.toList)) = false := by unfold ltS at hls; simp [hls]
              have hr : Hid (okL none (l.take (k + 1)) = true) := Lib.hid (by rw [hT.out, hall.out]; simp [okA, hn, hv, hls])
              go_wp2_with fail
              go_quiet (fail)
              clear hw1 hp2
              go_wp2
              go_roundw
              case rel => exact ⟨k + 1, by omega, by go_num, by go_num, hr, hend.out _ (below_drewN hbx _)⟩
              case measure => simp [intOf]; omega
    · have hki : ¬ (k : Int) < (l.length : Int) := by omega
      have hkl : k = l.length := by omega
      have HE : Hid (chkE l = 0) := Lib.hid (okE_good l (by omega) (by omega) (by have := hall.out; rwa [hkl] at this))
      clear hkl
      go_wp2
      try rw [Exit.noGoto_ret]
      go_ret
      exact ⟨by rw [HE.out]; rfl, hb⟩
section
variable {l la lb : List Att} {b : List UInt8} {v va vb : Value} {w : World}
theorem ECheck_evt (h : evt l v w) : Calls Try.prog 85 #[v] w fun e w' => e = .returned (.int .i64 (chkE l)) ∧ Below w.heap.size w w' := by
  obtain ⟨A, c, rfl, hR⟩ := h
  exact ECheck_calls A c l w _ hR (Nat.le_refl _)
end
end Go.Proofs.Ythnhdeieimgfhaa

/-
  What is found of an event, in plain Lean (layer 4). Conditions: none.
-/
set_option maxRecDepth 100000
namespace Go.Proofs.Ythnhdeieimgfhaa
open Go Go.RowKit

/-- Whether an attribute has a name. -/
def isN (s : ByteArray) (x : Att) : Bool := decide (x.1 = s)
/-- What Find tells. -/
def findV (l : List Att) (s : ByteArray) : Value := match l.find? (isN s) with | some x => .tuple #[vv x.2.1 x.2.2.1 x.2.2.2, .bool true] | none => .tuple #[vv 0 0 { data := #[] }, .bool false]

theorem find_hit (l : List Att) (s : ByteArray) (k : Nat) (hk : k < l.length) (h : isN s l[k] = true) (ha : ∀ x ∈ l.take k, isN s x = false) : l.find? (isN s) = some l[k] := by
  have e : l = l.take k ++ l[k] :: l.drop (k + 1) := by rw [List.getElem_cons_drop, List.take_append_drop]
  conv => lhs; rw [e]
  rw [List.find?_append, List.find?_eq_none.2 (fun x hx => by simp [ha x hx]), List.find?_cons_of_pos h]
  rfl
theorem find_miss (l : List Att) (s : ByteArray) (ha : ∀ x ∈ l, isN s x = false) : l.find? (isN s) = none := List.find?_eq_none.2 fun x hx => by simp [ha x hx]
theorem first_of (s : ByteArray) : ∀ l : List Att, (∃ k, ∃ hk : k < l.length, isN s l[k] = true ∧ ∀ x ∈ l.take k, isN s x = false) ∨ ∀ x ∈ l, isN s x = false
  | [] => .inr (by simp)
  | y :: l => by
    cases h : isN s y with
    | true => exact .inl ⟨0, by simp, by simpa using h, by simp⟩
    | false =>
      rcases first_of s l with ⟨k, hk, h1, h2⟩ | h1
      · refine .inl ⟨k + 1, by simpa using hk, by simpa using h1, ?_⟩
        intro x hx
        rw [List.take_succ_cons] at hx
        rcases List.mem_cons.1 hx with rfl | hx
        · exact h
        · exact h2 x hx
      · refine .inr fun x hx => ?_
        rcases List.mem_cons.1 hx with rfl | hx
        · exact h
        · exact h1 x hx

theorem findV_ex (l : List Att) (s : ByteArray) : ∃ k n t b, findV l s = .tuple #[vv k n t, .bool b] := by
  unfold findV
  split
  · exact ⟨_, _, _, _, rfl⟩
  · exact ⟨_, _, _, _, rfl⟩

end Go.Proofs.Ythnhdeieimgfhaa

/-
  The walks of event.Encode and of the document's Encode (layer 4). Conditions: none.
-/
set_option maxRecDepth 100000
namespace Go.Proofs.Ythnhdeieimgfhaa
open Go Go.RowKit

/-- An attribute's bytes, an event's bytes. -/
def encA (x : Att) : List UInt8 := (packN x.1.size ++ byt x.1) ++ packV x.2.1 x.2.2.1 x.2.2.2
def encE (l : List Att) : List UInt8 := packN l.length ++ l.flatMap encA
/-- What Encode tells of an event. -/
def encR (l : List Att) : List UInt8 := if okE l then encE l else []

theorem okL_all {p : Option ByteArray} {l : List Att} (h : okL p l = true) : ∀ x ∈ l, okA x = true := by
  induction l generalizing p with
  | nil => simp
  | cons y l ih =>
    simp only [okL, Bool.and_eq_true] at h
    intro x hx
    rcases List.mem_cons.1 hx with rfl | hx
    · exact h.1.1
    · exact ih h.2 x hx
theorem okA_sizes {x : Att} (h : okA x = true) : x.1.size ≤ 16 ∧ x.2.2.2.size ≤ 40 := by
  simp only [okA, okName, Bool.and_eq_true, decide_eq_true_eq] at h
  exact ⟨h.1.1.2, (okV_kind h.2).2⟩
theorem okE_parts {l : List Att} (h : okE l = true) : 1 ≤ l.length ∧ l.length ≤ 16 ∧ okL none l = true := by
  simp only [okE, Bool.and_eq_true, decide_eq_true_eq] at h
  exact ⟨h.1.1, h.1.2, h.2⟩
theorem encA_len {x : Att} (h : okA x = true) (h0 : -9223372036854775808 ≤ x.2.2.1) (h1 : x.2.2.1 ≤ 9223372036854775807) : (encA x).length ≤ 92 := by
  obtain ⟨a, b⟩ := okA_sizes h
  have h2 := packN_len x.1.size (by omega)
  have h3 := packN_len (kindN x.2.1) (kindN_lt _)
  have h4 := packN_len (numV x.2.1 x.2.2.1) (numV_lt _ _ h0 h1)
  have h5 := packN_len x.2.2.2.size (by omega)
  have e1 : x.1.data.size ≤ 16 := a
  have e2 : x.2.2.2.data.size ≤ 40 := b
  simp [encA, packV]; omega
theorem encT_len (l : List Att) (hk : ∀ x ∈ l, (encA x).length ≤ 92) : (l.flatMap encA).length ≤ 92 * l.length := by
  induction l with
  | nil => simp
  | cons y l ih =>
    have h1 := ih fun x hx => hk x (by simp [hx])
    have h2 := hk y (by simp)
    simp only [List.flatMap_cons, List.length_append, List.length_cons]
    omega
theorem encP_len (l : List Att) (k : Nat) (hl : okE l = true) (hi : ∀ x ∈ l, i64ok x.2.1 ∧ i64ok x.2.2.1) : (packN l.length ++ (l.take k).flatMap encA).length ≤ 2000 := by
  obtain ⟨h1, h2, h3⟩ := okE_parts hl
  have h4 := packN_len l.length (by omega)
  have h5 := encT_len (l.take k) fun x hx => encA_len (okL_all h3 x (List.mem_of_mem_take hx)) (hi x (List.mem_of_mem_take hx)).2.1 (hi x (List.mem_of_mem_take hx)).2.2
  have h6 : (l.take k).length ≤ 16 := by simp; omega
  simp only [List.length_append]; omega
theorem encP_succ (l : List Att) (k : Nat) (h : k < l.length) : packN l.length ++ (l.take (k + 1)).flatMap encA = packN l.length ++ (l.take k).flatMap encA ++ (packN l[k].1.size ++ byt l[k].1) ++ packV l[k].2.1 l[k].2.2.1 l[k].2.2.2 := by
  rw [List.take_succ_eq_append_getElem h, List.flatMap_append, List.flatMap_cons, List.flatMap_nil, List.append_nil]
  simp only [encA, List.append_assoc]
/-- A text made into bytes, in a world that draws behind it. -/
theorem Reads.conv' (w : World) (s : ByteArray) (c : Nat) (x : Nat × Nat) (e : TypeId) (n : Nat) (hn : w.heap.size = n) : Reads (w.alloc (.cells (bytesRow s c) e x)).drew (n + 1) 1 (some ⟨n, 0, none⟩) s.size (bys (byt s)) := by
  subst hn; exact Reads.drew (Reads.conv w s c x e)

end Go.Proofs.Ythnhdeieimgfhaa

/-
  Two attributes, or values, held against each other; the walks of the document's Same and of the statements' Few (layer 4). Conditions: none.
-/
set_option maxRecDepth 100000
namespace Go.Proofs.Ythnhdeieimgfhaa
open Go Go.RowKit

theorem toList_iff (a b : ByteArray) : a.toList = b.toList ↔ a = b := by
  rw [ByteArray.toList_eq, ByteArray.toList_eq]
  exact ⟨fun h => byt_inj h, fun h => by rw [h]⟩
theorem run_val_eq (k n k' n' : Int) (s s' : ByteArray) (w : World) (d : Nat) : (Op.equalIn (d + 1 + 1) 156 (vv k n s) (vv k' n' s')).run Try.prog w = .ok (decide ((k, n, s) = (k', n', s'))) w := by
  simp [go_sem, toList_iff]
  by_cases h1 : k = k' <;> by_cases h2 : n = n' <;> by_cases h3 : s = s' <;> simp [h1, h2, h3]
theorem run_att_eq (x y : Att) (w : World) (d : Nat) : (Op.equalIn (d + 1 + 1 + 1) 158 (.agg #[.string x.1, .int .i64 x.2.1, .int .i64 x.2.2.1, .string x.2.2.2]) (.agg #[.string y.1, .int .i64 y.2.1, .int .i64 y.2.2.1, .string y.2.2.2])).run Try.prog w = .ok (decide (x = y)) w := by
  obtain ⟨a, k, n, s⟩ := x
  obtain ⟨a', k', n', s'⟩ := y
  simp [go_sem, toList_iff]
  by_cases h0 : a = a' <;> by_cases h1 : k = k' <;> by_cases h2 : n = n' <;> by_cases h3 : s = s' <;> simp [h0, h1, h2, h3]
theorem neq_att (x y : Att) (w : World) : (binOp .neq 158 (.agg #[.string x.1, .int .i64 x.2.1, .int .i64 x.2.2.1, .string x.2.2.2]) (.agg #[.string y.1, .int .i64 y.2.1, .int .i64 y.2.2.1, .string y.2.2.2])).run Try.prog w = .ok (.bool (!decide (x = y))) w := by
  rw [run_neq_struct, run_att_eq x y w 9997]; rfl
theorem eql_val (k n k' n' : Int) (s s' : ByteArray) (w : World) : (binOp .eql 156 (vv k n s) (vv k' n' s')).run Try.prog w = .ok (.bool (decide ((k, n, s) = (k', n', s')))) w := by
  rw [run_eql_struct, run_val_eq k n k' n' s s' w 9998]; rfl
theorem neq_val (k n k' n' : Int) (s s' : ByteArray) (w : World) : (binOp .neq 156 (vv k n s) (vv k' n' s')).run Try.prog w = .ok (.bool (!decide ((k, n, s) = (k', n', s')))) w := by
  rw [run_neq_struct, run_val_eq k n k' n' s s' w 9998]; rfl

end Go.Proofs.Ythnhdeieimgfhaa

/-
  The walk of event.Decode (layer 4): what it returns, and that nothing that was there is changed. Conditions: at most 10^9 bytes.
-/
set_option maxRecDepth 100000
namespace Go.Proofs.Ythnhdeieimgfhaa
open Go Go.RowKit

/-- One attribute, and some, as a reader reads them: what they are, what is left, whether something is wrong. -/
def rdA (l : List UInt8) (wr : Bool) : Att × List UInt8 × Bool :=
  ((⟨(rdB 16 l wr).1.toArray⟩, (rdV (rdB 16 l wr).2.1 (rdB 16 l wr).2.2).1.1, (rdV (rdB 16 l wr).2.1 (rdB 16 l wr).2.2).1.2.1, ⟨(rdV (rdB 16 l wr).2.1 (rdB 16 l wr).2.2).1.2.2.toArray⟩), (rdV (rdB 16 l wr).2.1 (rdB 16 l wr).2.2).2)
def rdAs : Nat → List UInt8 → Bool → List Att × List UInt8 × Bool
  | 0, l, wr => ([], l, wr)
  | k + 1, l, wr => ((rdAs k l wr).1 ++ [(rdA (rdAs k l wr).2.1 (rdAs k l wr).2.2).1], (rdA (rdAs k l wr).2.1 (rdAs k l wr).2.2).2)
/-- The event that bytes are, if they are one. -/
def decS (b : List UInt8) : List Att × List UInt8 × Bool := rdAs (rdN b false).1 (rdN b false).2.1 (rdN b false).2.2
def decE (b : List UInt8) : Option (List Att) :=
  if decide ((rdN b false).1 ≤ 16) && !(decS b).2.2 && (decS b).2.1.isEmpty && okE (decS b).1 then some (decS b).1 else none
/-- What Decode tells: the event, or none; its error. -/
def decL (b : List UInt8) : List Att := (decE b).getD []
def decC (b : List UInt8) : Int := if (decE b).isSome then 0 else 40

theorem rdV_len (l : List UInt8) (wr : Bool) : (rdV l wr).2.1.length ≤ l.length := by
  have h1 := rdN_len l wr
  have h2 := rdN_len (rdN l wr).2.1 (rdN l wr).2.2
  have h3 := rdB_len 40 (rdN (rdN l wr).2.1 (rdN l wr).2.2).2.1 (rdN (rdN l wr).2.1 (rdN l wr).2.2).2.2
  simp only [rdV]
  split <;> (simp only; omega)
theorem rdV_i64 (l : List UInt8) (wr : Bool) : i64ok (rdV l wr).1.1 ∧ i64ok (rdV l wr).1.2.1 := by
  cases h : (rdV l wr).2.2
  · obtain ⟨_, h2, _, h4, h5⟩ := rdV_back h
    have := (okV_kind h2).1
    exact ⟨by unfold i64ok; omega, h4, h5⟩
  · have : (rdV l wr).1 = (0, 0, []) := by
      simp only [rdV] at h ⊢
      split at h
      · rename_i hq; rw [if_pos hq]
      · cases h
    rw [this]; unfold i64ok; simp
theorem rdA_len (l : List UInt8) (wr : Bool) : (rdA l wr).2.1.length ≤ l.length :=
  Nat.le_trans (rdV_len _ _) (rdB_len 16 l wr)
theorem rdAs_len (k : Nat) (l : List UInt8) (wr : Bool) : (rdAs k l wr).2.1.length ≤ l.length ∧ (rdAs k l wr).1.length = k := by
  induction k with
  | zero => exact ⟨Nat.le_refl _, rfl⟩
  | succ k ih => exact ⟨Nat.le_trans (rdA_len _ _) ih.1, by simp [rdAs, ih.2]⟩
theorem rdB_most (most : Int) (l : List UInt8) (wr : Bool) : (rdB most l wr).1.length ≤ most.toNat := by
  unfold rdB
  split
  · simp
  · rename_i h
    simp at h
    simp; omega
theorem rdAs_fit (k : Nat) (l : List UInt8) (wr : Bool) : ∀ x ∈ (rdAs k l wr).1, (i64ok x.2.1 ∧ i64ok x.2.2.1) ∧ x.1.size ≤ 16 := by
  induction k with
  | zero => simp [rdAs]
  | succ k ih =>
    intro x hx
    rcases List.mem_append.1 hx with hx | hx
    · exact ih x hx
    · simp only [List.mem_singleton] at hx
      subst hx
      exact ⟨rdV_i64 _ _, rdB_most 16 _ _⟩

theorem infoAtt : (Try.prog.info? 158).map (fun i => (i.zero, i.size, i.bytes)) = some (some (.agg #[.string { data := #[] }, .int .i64 0, .int .i64 0, .string { data := #[] }]), 4, 48) := by kernel_rfl
theorem TE : SliceT Try.prog 124 158 (.agg #[.string { data := #[] }, .int .i64 0, .int .i64 0, .string { data := #[] }]) 4 48 := ⟨Try.underlying124, infoAtt, rfl, by decide⟩
/-- An event that a call made. -/
abbrev OwnE (w : World) (base : Nat) (v : Value) (l : List Att) : Prop := w.ownsRow base 158 4 v l.length (l.flatMap attc)
theorem OwnE.slice {w : World} {base : Nat} {v : Value} {l : List Att} (h : OwnE w base v l) : ∃ A c, v = .slice A l.length c ∧ Reads w w.heap.size 4 A l.length (l.flatMap attc) ∧ l.length ≤ c ∧ c ≤ maxLen := by
  have h' := h
  rcases h.2 with ⟨rfl, h0⟩ | ⟨g, cap, cur, rfl, _, _, hn, hc, _⟩
  · obtain rfl : l = [] := List.eq_nil_of_length_eq_zero h0
    exact ⟨none, 0, rfl, Reads.of_own h', by simp, by simp⟩
  · exact ⟨_, _, rfl, Reads.of_own h', hn, hc⟩
theorem row_base {w : World} {base base' : Nat} {e : TypeId} {size n : Nat} {v : Value} {xs : List Value} (hb : base ≤ base') (h : w.ownsRow base' e size v n xs) : w.ownsRow base e size v n xs := by
  refine ⟨h.1, h.2.imp id ?_⟩
  rintro ⟨g, cap, cur, h1, h2, h3⟩
  exact ⟨g, cap, cur, h1, by omega, h3⟩
theorem row_below {w w' : World} {base : Nat} {e : TypeId} {size n : Nat} {v : Value} {xs : List Value} (h : w.ownsRow base e size v n xs) (hb : Below w.heap.size w w') : w'.ownsRow base e size v n xs := by
  refine ⟨h.1, h.2.imp id ?_⟩
  rintro ⟨g, cap, cur, h1, h2, h3, h4⟩
  exact ⟨g, cap, cur, h1, h2, (hb.block g (Array.getElem?_eq_some_iff.1 h3).1).trans h3, h4⟩
theorem row_mut {w w' : World} {base g : Nat} {e : TypeId} {size n : Nat} {v : Value} {xs : List Value} (h : w.ownsRow base e size v n xs) (hb : w.grownBy w' (some g)) (hg : g < base) : w'.ownsRow base e size v n xs :=
  World.ownsRow.kept h hb (.inr (by
    intro e
    have := (h.lt g e).1
    omega))
theorem attc_one (x : Att) : ∀ u ∈ attc x, u.oneCell' = true := by
  intro u hu
  simp at hu
  rcases hu with rfl | rfl | rfl | rfl <;> rfl

theorem evt_own {w : World} {base : Nat} {v : Value} {l : List Att} (h : OwnE w base v l) : evt l v w := by
  obtain ⟨A, c, rfl, hr, _⟩ := h.slice
  exact ⟨A, c, rfl, hr⟩

theorem decL_len (b : List UInt8) : (decL b).length ≤ 1000000 := by
  unfold decL decE
  split
  · rename_i h
    simp only [Bool.and_eq_true, decide_eq_true_eq] at h
    have := (rdAs_len (rdN b false).1 (rdN b false).2.1 (rdN b false).2.2).2
    show (decS b).1.length ≤ _
    unfold decS
    omega
  · simp

end Go.Proofs.Ythnhdeieimgfhaa

/-
  The walk of the statements' Few of events (layer 4). Conditions: none.
-/
set_option maxRecDepth 100000
namespace Go.Proofs.Ythnhdeieimgfhaa
open Go Go.RowKit

/-- At most twenty attributes, of texts of at most a hundred bytes. -/
def fewE (l : List Att) : Bool := decide (l.length ≤ 20) && l.all fun x => decide (x.1.size ≤ 100) && decide (x.2.2.2.size ≤ 100)
theorem few_bad (l : List Att) (k : Nat) (h : k < l.length) (hb : ¬ (l[k].1.size ≤ 100 ∧ l[k].2.2.2.size ≤ 100)) : fewE l = false := by
  simp only [fewE, Bool.and_eq_false_iff]
  right
  rw [List.all_eq_false]
  exact ⟨l[k], List.getElem_mem h, by simpa using hb⟩
theorem few_good (l : List Att) (h20 : l.length ≤ 20) (h : ∀ k (hk : k < l.length), l[k].1.size ≤ 100 ∧ l[k].2.2.2.size ≤ 100) : fewE l = true := by
  simp only [fewE, Bool.and_eq_true, decide_eq_true_eq, h20, true_and, List.all_eq_true]
  intro x hx
  obtain ⟨k, hk, rfl⟩ := List.getElem_of_mem hx
  exact h k hk
theorem few_parts {l : List Att} (h : fewE l = true) : l.length ≤ 20 ∧ ∀ x ∈ l, x.1.size ≤ 100 ∧ x.2.2.2.size ≤ 100 := by
  simp only [fewE, Bool.and_eq_true, decide_eq_true_eq, List.all_eq_true] at h
  exact h

set_option maxHeartbeats 2000000 in
theorem Few_calls (A : Option Addr) (c : Nat) (l : List Att) (w : World) (B : Nat) (hR : Reads w B 4 A l.length (l.flatMap attc)) (_hB : B ≤ w.heap.size) :
    Calls Try.prog 108 #[.slice A l.length c] w fun e w' => e = .returned (.bool (fewE l)) ∧ w = w' := by
  have HA := Lib.hid hR
  clear hR
  by_cases hl : l.length ≤ 20
  rotate_left
  · have hb1 : (20 : Int) < (l.length : Int) := by omega
    have HE : Hid (fewE l = false) := Lib.hid (by simp [fewE]; omega)
    clear hl
    go_enter Try.func108, Try.ntmps108
    go_wp2
    go_ret
    exact ⟨by rw [HE.out]; rfl, rfl⟩
  have hb1 : ¬ (20 : Int) < (l.length : Int) := by omega
  go_enter Try.func108, Try.ntmps108
  go_wp2_with fail
  go_loop [3] (fun i => ∃ k : Nat, k ≤ l.length ∧ i = .int .i64 (k : Int) ∧ Hid (∀ j (hj : j < l.length), j < k → l[j].1.size ≤ 100 ∧ l[j].2.2.2.size ≤ 100)) (fun i => l.length - (intOf i).toNat)
  case atStart => exact ⟨0, by omega, rfl, Lib.hid (fun j _ h => absurd h (by omega))⟩
  case round =>
    obtain ⟨k, hk, rfl, hall⟩ := hrel
    by_cases hlt : k < l.length
    · have hki : (k : Int) < (l.length : Int) := by omega
      obtain ⟨b, off, rfl, hbB, hcell⟩ := HA.out.atts (by omega)
      obtain ⟨d0, d1, d2, d3⟩ := hcell k hlt
      clear hcell d1 d2
      have HF := Lib.hid (few_bad l k hlt)
      have HT : Hid (l[k].1.size ≤ 100 ∧ l[k].2.2.2.size ≤ 100 → ∀ j (hj : j < l.length), j < k + 1 → l[j].1.size ≤ 100 ∧ l[j].2.2.2.size ≤ 100) := by
        refine Lib.hid fun h j hj hjk => ?_
        by_cases e : j = k
        · subst e; exact h
        · exact hall.out j hj (by omega)
      generalize l[k] = x at *
      obtain ⟨xs, xk, xn, xt⟩ := x
      simp only at d0 d3 HF HT
      by_cases h1 : xs.size ≤ 100
      · have h1' : ¬ (100 : Int) < (xs.size : Int) := by omega
        by_cases h2 : xt.size ≤ 100
        · have h2' : ¬ (100 : Int) < (xt.size : Int) := by omega
          have hr := Lib.hid (HT.out ⟨h1, h2⟩)
          go_wp2
          go_round
          case rel => exact ⟨k + 1, by omega, by go_num, hr⟩
          case measure => simp [intOf]; omega
        · have h2' : (100 : Int) < (xt.size : Int) := by omega
          have HE : Hid (fewE l = false) := Lib.hid (HF.out (by omega))
          go_wp2
          go_ret
          exact ⟨by rw [HE.out]; rfl, rfl⟩
      · have h1' : (100 : Int) < (xs.size : Int) := by omega
        have HE : Hid (fewE l = false) := Lib.hid (HF.out (by omega))
        go_wp2
        go_ret
        exact ⟨by rw [HE.out]; rfl, rfl⟩
    · have hki : ¬ (k : Int) < (l.length : Int) := by omega
      have HE : Hid (fewE l = true) := Lib.hid (few_good l hl fun j hj => hall.out j hj (by omega))
      go_wp2
      go_ret
      exact ⟨by rw [HE.out]; rfl, rfl⟩
section
variable {l la lb : List Att} {b : List UInt8} {v va vb : Value} {w : World}
theorem Few_evt (h : evt l v w) : Calls Try.prog 108 #[v] w fun e w' => e = .returned (.bool (fewE l)) ∧ w = w' := by
  obtain ⟨A, c, rfl, hR⟩ := h
  exact Few_calls A c l w _ hR (Nat.le_refl _)
end
theorem few_fit {l : List Att} (h : fewE l = true) : l.length ≤ 1000000 ∧ ∀ x ∈ l, x.1.size ≤ 1000000000 := by
  obtain ⟨h1, h2⟩ := few_parts h
  exact ⟨by omega, fun x hx => by have := (h2 x hx).1; omega⟩

end Go.Proofs.Ythnhdeieimgfhaa

/-
  Plain laws of events: what is encoded is decoded, and what is decoded was encoded so; what is found; what may be left away. Conditions: none beyond those stated.
-/
set_option maxRecDepth 100000
namespace Go.Proofs.Ythnhdeieimgfhaa
open Go Go.RowKit

/-- Numbers that fit. -/
def fitA (x : Att) : Prop := i64ok x.2.1 ∧ i64ok x.2.2.1

theorem bytes_of (s : ByteArray) : (⟨(byt s).toArray⟩ : ByteArray) = s := by cases s; simp
theorem byt_mk (l : List UInt8) : byt ⟨l.toArray⟩ = l := by simp [byt]
theorem byt_len (s : ByteArray) : (byt s).length = s.size := by simp

theorem rdA_enc (x : Att) (hx : okA x = true) (hf : fitA x) (rest : List UInt8) : rdA (encA x ++ rest) false = (x, rest, false) := by
  obtain ⟨h16, h40⟩ := okA_sizes hx
  obtain ⟨s, k, n, t⟩ := x
  have hv : okV k n t = true := by simp only [okA, Bool.and_eq_true] at hx; exact hx.2
  have e1 : rdB 16 (encA (s, k, n, t) ++ rest) false = (byt s, packV k n t ++ rest, false) := by
    have := rdB_pack 16 (byt s) (by rw [byt_len]; simp at h16; omega) (by rw [byt_len]; simp at h16; omega) (packV k n t ++ rest)
    rw [byt_len] at this
    simp only [encA]
    rw [List.append_assoc (packN s.size ++ byt s)]
    exact this
  have e2 := rdV_pack k n t hv hf.2.1 hf.2.2 rest
  unfold rdA
  rw [e1]
  simp only
  rw [e2]
theorem rdAs_enc (l : List Att) (h : ∀ x ∈ l, okA x = true ∧ fitA x) (rest : List UInt8) : ∀ k, k ≤ l.length → rdAs k (l.flatMap encA ++ rest) false = (l.take k, (l.drop k).flatMap encA ++ rest, false) := by
  intro k
  induction k with
  | zero => intro _; simp [rdAs]
  | succ k ih =>
    intro hk
    have hk' : k < l.length := by omega
    have hd : l.drop k = l[k] :: l.drop (k + 1) := by rw [List.getElem_cons_drop]
    have hx := h l[k] (List.getElem_mem hk')
    show ((rdAs k (l.flatMap encA ++ rest) false).1 ++ [(rdA (rdAs k (l.flatMap encA ++ rest) false).2.1 (rdAs k (l.flatMap encA ++ rest) false).2.2).1], (rdA (rdAs k (l.flatMap encA ++ rest) false).2.1 (rdAs k (l.flatMap encA ++ rest) false).2.2).2) = _
    rw [ih (by omega)]
    simp only
    rw [hd, List.flatMap_cons, List.append_assoc, rdA_enc _ hx.1 hx.2, List.take_succ_eq_append_getElem hk']
theorem dec_parts (l : List Att) (hl : okE l = true) (hf : ∀ x ∈ l, fitA x) (rest : List UInt8) : rdN (encE l ++ rest) false = (l.length, l.flatMap encA ++ rest, false) ∧ decS (encE l ++ rest) = (l, rest, false) := by
  obtain ⟨h1, h2, h3⟩ := okE_parts hl
  have e1 : rdN (encE l ++ rest) false = (l.length, l.flatMap encA ++ rest, false) := by
    unfold encE; rw [List.append_assoc]; exact rdN_pack l.length (by omega) _
  refine ⟨e1, ?_⟩
  have h5 := rdAs_enc l (fun x hx => ⟨okL_all h3 x hx, hf x hx⟩) rest l.length (Nat.le_refl _)
  unfold decS
  rw [e1]
  simpa using h5
theorem decE_enc (l : List Att) (hl : okE l = true) (hf : ∀ x ∈ l, fitA x) : decE (encE l) = some l := by
  have h := dec_parts l hl hf []
  rw [List.append_nil] at h
  have h2 := (okE_parts hl).2.1
  unfold decE
  rw [h.2, h.1]
  simp [hl, h2]
theorem decE_more (l : List Att) (hl : okE l = true) (hf : ∀ x ∈ l, fitA x) (b : UInt8) : decE (encE l ++ [b]) = none := by
  have h := dec_parts l hl hf [b]
  unfold decE
  rw [h.2]
  simp

theorem rdA_back {l : List UInt8} {wr : Bool} (h : (rdA l wr).2.2 = false) : l = encA (rdA l wr).1 ++ (rdA l wr).2.1 ∧ wr = false := by
  obtain ⟨e2, _, w2, _⟩ := rdV_back (l := (rdB 16 l wr).2.1) (wr := (rdB 16 l wr).2.2) h
  obtain ⟨e1, _, w1⟩ := rdB_back w2
  refine ⟨?_, w1⟩
  unfold rdA encA
  simp only
  rw [byt_mk]
  have hs : (⟨(rdB 16 l wr).1.toArray⟩ : ByteArray).size = (rdB 16 l wr).1.length := by simp [ByteArray.size]
  rw [hs, List.append_assoc, ← e2]
  exact e1
theorem rdAs_back {k : Nat} {l : List UInt8} {wr : Bool} (h : (rdAs k l wr).2.2 = false) : l = (rdAs k l wr).1.flatMap encA ++ (rdAs k l wr).2.1 ∧ wr = false := by
  induction k with
  | zero => exact ⟨by simp [rdAs], h⟩
  | succ k ih =>
    obtain ⟨e1, w1⟩ := rdA_back (l := (rdAs k l wr).2.1) (wr := (rdAs k l wr).2.2) h
    obtain ⟨e2, w2⟩ := ih w1
    refine ⟨?_, w2⟩
    show l = ((rdAs k l wr).1 ++ [(rdA (rdAs k l wr).2.1 (rdAs k l wr).2.2).1]).flatMap encA ++ (rdA (rdAs k l wr).2.1 (rdAs k l wr).2.2).2.1
    rw [List.flatMap_append, List.flatMap_cons, List.flatMap_nil, List.append_nil, List.append_assoc, ← e1]
    exact e2
theorem decE_back {b : List UInt8} {y : List Att} (h : decE b = some y) : b = encE y ∧ okE y = true ∧ ∀ x ∈ y, fitA x := by
  unfold decE at h
  split at h
  · rename_i hq
    injection h with h
    simp only [Bool.and_eq_true, Bool.not_eq_true', List.isEmpty_iff, decide_eq_true_eq] at hq
    obtain ⟨⟨⟨h16, hw⟩, hr⟩, hok⟩ := hq
    unfold decS at hw hr hok h
    obtain ⟨e2, w2⟩ := rdAs_back hw
    obtain ⟨e1, _⟩ := rdN_back w2
    have hlen := (rdAs_len (rdN b false).1 (rdN b false).2.1 (rdN b false).2.2).2
    have hfit := rdAs_fit (rdN b false).1 (rdN b false).2.1 (rdN b false).2.2
    rw [h] at e2 hlen hok hfit
    rw [hr, List.append_nil] at e2
    refine ⟨?_, hok, fun x hx => (hfit x hx).1⟩
    unfold encE
    rw [hlen, ← e2]
    exact e1
  · cases h
theorem encE_ne (l : List Att) : encE l ≠ [] := by simp [encE, packN]
theorem decE_less (l : List Att) (hl : okE l = true) (hf : ∀ x ∈ l, fitA x) : decE ((encE l).take ((encE l).length - 1)) = none := by
  cases h : decE ((encE l).take ((encE l).length - 1)) with
  | none => rfl
  | some y =>
    exfalso
    obtain ⟨e1, h2, h3⟩ := decE_back h
    have hne := encE_ne l
    have e2 : encE l = encE y ++ [(encE l).getLast hne] := by
      rw [← e1, ← List.dropLast_eq_take, List.dropLast_concat_getLast]
    have h4 := decE_more y h2 h3 ((encE l).getLast hne)
    rw [← e2, decE_enc l hl hf] at h4
    cases h4
theorem encE_inj (a b : List Att) (ha : okE a = true) (hb : okE b = true) (fa : ∀ x ∈ a, fitA x) (fb : ∀ x ∈ b, fitA x) (h : encE a = encE b) : a = b := by
  have h1 := decE_enc a ha fa
  rw [h, decE_enc b hb fb] at h1
  injection h1 with h1
  exact h1.symm

/-- Names rise: an earlier one comes before a later one. -/
theorem okL_rise {l : List Att} : ∀ {p : Option ByteArray}, okL p l = true → (∀ x ∈ l, behind p x.1 = true) ∧ l.Pairwise (fun x y => ltS x.1 y.1 = true) := by
  induction l with
  | nil => intro p _; simp
  | cons y l ih =>
    intro p h
    simp only [okL, Bool.and_eq_true] at h
    obtain ⟨⟨_, h1⟩, h2⟩ := h
    obtain ⟨i1, i2⟩ := ih h2
    refine ⟨?_, List.pairwise_cons.2 ⟨fun x hx => i1 x hx, i2⟩⟩
    intro x hx
    rcases List.mem_cons.1 hx with rfl | hx
    · exact h1
    · have h3 : ltS y.1 x.1 = true := i1 x hx
      cases p with
      | none => rfl
      | some s => exact ltS_trans h1 h3
theorem okL_of {l : List Att} : ∀ {p : Option ByteArray}, (∀ x ∈ l, okA x = true) → (∀ x ∈ l, behind p x.1 = true) → l.Pairwise (fun x y => ltS x.1 y.1 = true) → okL p l = true := by
  induction l with
  | nil => intro p _ _ _; rfl
  | cons y l ih =>
    intro p h1 h2 h3
    obtain ⟨h4, h5⟩ := List.pairwise_cons.1 h3
    simp only [okL, Bool.and_eq_true]
    exact ⟨⟨h1 y (by simp), h2 y (by simp)⟩, ih (fun x hx => h1 x (by simp [hx])) (fun x hx => h4 x hx) h5⟩
theorem ltS_ne {a b : ByteArray} (h : ltS a b = true) : a ≠ b := by
  rintro rfl; rw [ltS_irrefl] at h; cases h
theorem find_own (l : List Att) (h : okE l = true) (k : Nat) (hk : k < l.length) : l.find? (isN l[k].1) = some l[k] := by
  refine find_hit l _ k hk (by simp [isN]) fun x hx => ?_
  have hp := (okL_rise (okE_parts h).2.2).2
  obtain ⟨j, hj, rfl⟩ := List.mem_take_iff_getElem.1 hx
  have := (List.pairwise_iff_getElem.1 hp) j k (by omega) hk (by omega)
  simp [isN, ltS_ne this]
theorem find_some_any (l : List Att) (s : ByteArray) : (l.find? (isN s)).isSome = l.any (isN s) := by
  rw [Bool.eq_iff_iff, List.find?_isSome, List.any_eq_true]

/-- Without one of its attributes. -/
theorem okE_without (l : List Att) (h : okE l = true) (h2 : 2 ≤ l.length) (k : Nat) (hk : k < l.length) : okE (l.take k ++ l.drop (k + 1)) = true := by
  obtain ⟨_, h16, hL⟩ := okE_parts h
  have hr := okL_rise hL
  have ha := okL_all hL
  have hsub : (l.take k ++ l.drop (k + 1)).Sublist l := by
    have e : l = l.take k ++ l.drop k := (List.take_append_drop k l).symm
    conv => rhs; rw [e]
    refine List.Sublist.append (List.Sublist.refl _) ?_
    rw [← List.getElem_cons_drop hk]
    exact List.sublist_cons_self _ _
  have hlen : (l.take k ++ l.drop (k + 1)).length = l.length - 1 := by simp; omega
  simp only [okE, Bool.and_eq_true, decide_eq_true_eq, hlen]
  refine ⟨⟨by omega, by omega⟩, ?_⟩
  exact okL_of (fun x hx => ha x (hsub.subset hx)) (fun x hx => rfl) (hr.2.sublist hsub)
theorem find_without (l : List Att) (h : okE l = true) (k : Nat) (hk : k < l.length) : (l.take k ++ l.drop (k + 1)).find? (isN l[k].1) = none := by
  refine find_miss _ _ fun x hx => ?_
  have hp := (okL_rise (okE_parts h).2.2).2
  rcases List.mem_append.1 hx with hx | hx
  · obtain ⟨j, hj, rfl⟩ := List.mem_take_iff_getElem.1 hx
    have := (List.pairwise_iff_getElem.1 hp) j k (by omega) hk (by omega)
    simp [isN, ltS_ne this]
  · obtain ⟨j, hj, rfl⟩ := List.mem_drop_iff_getElem.1 hx
    have := (List.pairwise_iff_getElem.1 hp) k (k + 1 + j) hk (by omega) (by omega)
    simp only [isN, decide_eq_false_iff_not]
    exact fun e => ltS_ne this e.symm
/-- With one of its attributes twice. -/
theorem okE_twice (l : List Att) (k : Nat) (hk : k < l.length) : chkE (l.take k ++ [l[k]] ++ l.drop k) = 40 := by
  cases h : okE (l.take k ++ [l[k]] ++ l.drop k) with
  | false => unfold chkE; rw [h]; rfl
  | true =>
    exfalso
    have hp := (okL_rise (okE_parts h).2.2).2
    rw [List.append_assoc] at hp
    have h2 := (List.pairwise_append.1 hp).2.1
    rw [← List.getElem_cons_drop hk] at h2
    simp only [List.cons_append, List.nil_append, List.pairwise_cons] at h2
    have := h2.1 l[k] (List.mem_cons_self)
    rw [ltS_irrefl] at this; cases this
theorem decC_none {b : List UInt8} (h : decE b = none) : decC b = 40 ∧ decL b = [] := by simp [decC, decL, h]
theorem decC_some {b : List UInt8} {l : List Att} (h : decE b = some l) : decC b = 0 ∧ decL b = l := by simp [decC, decL, h]
theorem encE_len {l : List Att} (h : okE l = true) (hf : ∀ x ∈ l, fitA x) : (encE l).length ≤ 2000 := by
  have := encP_len l l.length h hf
  rwa [List.take_length] at this

theorem findV_any {l : List Att} {s : ByteArray} (h : l.any (isN s) = true) : ∃ k n t, findV l s = .tuple #[vv k n t, .bool true] := by
  rw [← find_some_any] at h
  obtain ⟨x, hx⟩ := Option.isSome_iff_exists.1 h
  exact ⟨x.2.1, x.2.2.1, x.2.2.2, by simp only [findV, hx]⟩
theorem findV_none {l : List Att} {s : ByteArray} (h : l.any (isN s) = false) : findV l s = .tuple #[vv 0 0 { data := #[] }, .bool false] := by
  rw [← find_some_any] at h
  cases hx : l.find? (isN s) with
  | none => simp only [findV, hx]
  | some x => rw [hx] at h; cases h
theorem any_take (l : List Att) (s : ByteArray) (k : Nat) (hk : k < l.length) : (l.take (k + 1)).any (isN s) = ((l.take k).any (isN s) || isN s l[k]) := by
  rw [List.take_succ_eq_append_getElem hk, List.any_append]; simp

theorem evt_rep {w : World} {v : Value} (h : repEvent w v) : ∃ l : List Att, evt l v w ∧ ∀ x ∈ l, i64ok x.2.1 ∧ i64ok x.2.2.1 := by
  obtain ⟨A, c, l, rfl, h1, h2, _, _⟩ := h
  exact ⟨l, ⟨A, c, rfl, h1⟩, h2⟩
end Go.Proofs.Ythnhdeieimgfhaa

/-
  The walk of event.Encode (layer 4). Conditions: none.
-/
set_option maxRecDepth 100000
namespace Go.Proofs.Ythnhdeieimgfhaa
open Go Go.RowKit

set_option maxHeartbeats 4000000 in
theorem Encode_calls (A : Option Addr) (c : Nat) (l : List Att) (w : World) (B : Nat) (hR : Reads w B 4 A l.length (l.flatMap attc)) (hB : B ≤ w.heap.size) (hi : ∀ x ∈ l, i64ok x.2.1 ∧ i64ok x.2.2.1) :
    Calls Try.prog 113 #[.slice A l.length c] w fun e w' =>
      ∃ v', e = .returned (.tuple #[v', .int .i64 (chkE l)]) ∧ Own w' w.heap.size 5 v' (encR l) ∧ Below w.heap.size w w' := by
  have hch := Lib.hid (ECheck_calls A c l w B hR hB)
  cases hok : okE l
  · have HE : Hid (chkE l = 40) := Lib.hid (by simp [chkE, hok])
    have HR : Hid (encR l = []) := Lib.hid (by simp [encR, hok])
    clear hok
    have hne : (chkE l != 0) = true := by rw [HE.out]; rfl
    go_enter Try.func113, Try.ntmps113
    go_wp2_with fail
    refine hch.out.mono ?_
    rintro e w1 ⟨rfl, hb1⟩
    go_wp2
    go_ret2
    exact ⟨_, rfl, by rw [HR.out]; exact World.ownsRow_nil _ _ _ _, hb1⟩
  · have HE : Hid (chkE l = 0) := Lib.hid (by simp [chkE, hok])
    have HR : Hid (encR l = encE l) := Lib.hid (by simp [encR, hok])
    have hne : (chkE l != 0) = false := by rw [HE.out]; rfl
    obtain ⟨h1, h16, hL⟩ := okE_parts hok
    have HLN := Lib.hid fun k => encP_len l k hok hi
    have HA := Lib.hid (okL_all hL)
    have HI := Lib.hid hi
    have HS := Lib.hid (encP_succ l)
    have HRd := Lib.hid hR
    clear hok hL hi hR
    go_enter Try.func113, Try.ntmps113
    go_wp2_with fail
    refine hch.out.mono ?_
    rintro e w1 ⟨rfl, hb1⟩
    go_wp2_with fail
    refine (Number_calls none 0 0 [] l.length (by omega) w1 0 (Reads.nil _ _ _ _) (by omega) (by omega)).mono ?_
    rintro e w2 ⟨v2, rfl, ho2, hb2⟩
    have hb12 := hb1.trans (hb2.mono hb1.size)
    rw [List.nil_append] at ho2
    have ho := own_base hb1.size ho2 rfl
    clear ho2 hb1 hb2
    go_wp2_with fail
    go_loopw [5, 19] (fun o i wr => ∃ k : Nat, k ≤ l.length ∧ i = .int .i64 (k : Int) ∧ Own wr w.heap.size 5 o (packN l.length ++ (l.take k).flatMap encA) ∧ Below w.heap.size w wr) (fun _ i _ => l.length - (intOf i).toNat)
    case atStart => exact ⟨0, by omega, rfl, by simpa using ho, hb12⟩
    case round =>
      obtain ⟨k, hk, rfl, hok, hb⟩ := hrel
      by_cases hlt : k < l.length
      · have hki : (k : Int) < (l.length : Int) := by omega
        obtain ⟨b, off, rfl, hbB, hcell⟩ := HRd.out.atts (by omega)
        obtain ⟨e0, e1, e2, e3⟩ := hcell k hlt
        have d0 := (hb.cell (p := ⟨b, off + k * 4, none⟩) (Nat.lt_of_lt_of_le hbB hB)).trans e0
        have d1 := (hb.cell (p := ⟨b, off + k * 4 + 1, none⟩) (Nat.lt_of_lt_of_le hbB hB)).trans e1
        have d2 := (hb.cell (p := ⟨b, off + k * 4 + 2, none⟩) (Nat.lt_of_lt_of_le hbB hB)).trans e2
        have d3 := (hb.cell (p := ⟨b, off + k * 4 + 3, none⟩) (Nat.lt_of_lt_of_le hbB hB)).trans e3
        clear e0 e1 e2 e3 hcell
        have hz := hb.size
        have hsz := okA_sizes (HA.out _ (List.getElem_mem hlt))
        have hii := (HI.out _ (List.getElem_mem hlt)).2
        have HSk := Lib.hid (HS.out k hlt)
        have hlk := HLN.out k
        generalize l[k] = x at *
        obtain ⟨s, vk, vn, vs⟩ := x
        simp only at d0 d1 d2 d3 hsz hii HSk
        obtain ⟨hs16, hs40⟩ := hsz
        generalize (l.take k).flatMap encA = T at *
        obtain ⟨A1, c1, rfl, hR1⟩ := hok.slice
        have hlm : (packN l.length ++ T).length ≤ 2000 := hlk
        generalize hm1 : (packN l.length ++ T).length = m1 at hR1 hlk ⊢
        clear hm1 hok
        have hcv := fun W => run_bytes_of_string (P := Try.prog) W 9 30 5 s Try.underlying9 Try.underlying30 Try.underlying5
        go_wp2_with fail
        have hx0 := Blk.new wr 158 #[.string s, .int .i64 vk, .int .i64 vn, .string vs]
        have hbx : Below wr.heap.size wr ((wr.alloc (.cells #[.string s, .int .i64 vk, .int .i64 vn, .string vs] 158)).alloc (.cells (bytesRow s (grownCap (wr.alloc (.cells #[.string s, .int .i64 vk, .int .i64 vn, .string vs] 158)) s.size 0 5)) 5 ((bytesRow s (grownCap (wr.alloc (.cells #[.string s, .int .i64 vk, .int .i64 vn, .string vs] 158)) s.size 0 5)).size, (bytesRow s (grownCap (wr.alloc (.cells #[.string s, .int .i64 vk, .int .i64 vn, .string vs] 158)) s.size 0 5)).size + 1))).drew := (((Below.refl _ _).alloc (Nat.le_refl _) _).alloc (by simp) _).drew
        have hR2 := (hR1.below hbx (Nat.le_refl _)).more (B' := wr.heap.size + 1 + 1) (by omega)
        refine (Bytes_calls A1 _ m1 c1 s.size _ _ (byt s) _ (wr.heap.size + 1 + 1) hR2 (Reads.conv' _ s _ _ _ (wr.heap.size + 1) (by simp)) (by simp) (by omega) (by omega)).mono ?_
        rintro e w3 ⟨v3, rfl, ho3, hb3⟩
        have hx1 := ((hx0.alloc (.cells (bytesRow s (grownCap (wr.alloc (.cells #[.string s, .int .i64 vk, .int .i64 vn, .string vs] 158)) s.size 0 5)) 5 ((bytesRow s (grownCap (wr.alloc (.cells #[.string s, .int .i64 vk, .int .i64 vn, .string vs] 158)) s.size 0 5)).size, (bytesRow s (grownCap (wr.alloc (.cells #[.string s, .int .i64 vk, .int .i64 vn, .string vs] 158)) s.size 0 5)).size + 1))).drew).below hb3 (by simp; omega)
        have hbw : Below wr.heap.size wr w3 := hbx.trans (hb3.mono (by simp; omega))
        have q1 := hx1.cell 1
        have q2 := hx1.cell 2
        have q3 := hx1.cell 3
        simp at q1 q2 q3
        clear hbx hb3 hR1 hR2 hx0 hcv
        have ho3 : Own w3 wr.heap.size 5 v3 (packN l.length ++ T ++ (packN s.size ++ byt s)) := own_base (by simp; omega) ho3 (by rw [show (byt s).length = s.size from by simp, List.append_assoc (packN l.length ++ T)])
        obtain ⟨A3, c3, rfl, hR3⟩ := ho3.slice
        have hpl := packN_len s.size (by omega)
        have hss : s.data.size ≤ 16 := hs16
        have hHm := Lib.hid (rfl : (packN l.length ++ T ++ (packN s.size ++ byt s)).length = (packN l.length ++ T ++ (packN s.size ++ byt s)).length)
        have hm3 : (packN l.length ++ T ++ (packN s.size ++ byt s)).length ≤ 3000 := by
          simp only [List.length_append] at hlm ⊢
          simp; omega
        generalize (packN l.length ++ T ++ (packN s.size ++ byt s)).length = m3 at *
        clear ho3
        go_wp2_with fail
        refine (Value_calls A3 m3 c3 _ vk vn vs w3 w3.heap.size hR3 (Nat.le_refl _) (by omega) (by omega) hii.1 hii.2).mono ?_
        rintro e w4 ⟨v4, rfl, ho4, hb4⟩
        have hbn : Below w.heap.size w w4 := (hb.trans (hbw.mono hz)).trans (hb4.mono (Nat.le_trans hz hbw.size))
        have ho4 := own_base (Nat.le_trans hz hbw.size) ho4 rfl
        rw [← HSk.out] at ho4
        go_wp2
        go_roundw
        case rel => exact ⟨k + 1, by omega, by go_num, ho4, hbn⟩
        case measure => simp [intOf]; omega
      · have hki : ¬ (k : Int) < (l.length : Int) := by omega
        have ho : Own wr w.heap.size 5 u5 (encR l) := by
          rw [HR.out]; unfold encE
          rwa [List.take_of_length_le (by omega)] at hok
        clear hok
        go_wp2
        go_ret2
        exact ⟨_, by rw [HE.out]; rfl, ho, hb⟩
section
variable {l la lb : List Att} {b : List UInt8} {v va vb : Value} {w : World}
theorem Encode_evt (h : evt l v w) (hi : ∀ x ∈ l, i64ok x.2.1 ∧ i64ok x.2.2.1) : Calls Try.prog 113 #[v] w fun e w' =>
    ∃ v', e = .returned (.tuple #[v', .int .i64 (chkE l)]) ∧ Own w' w.heap.size 5 v' (encR l) ∧ Below w.heap.size w w' := by
  obtain ⟨A, c, rfl, hR⟩ := h
  exact Encode_calls A c l w _ hR (Nat.le_refl _) hi
end
end Go.Proofs.Ythnhdeieimgfhaa

/-
  The walk of event.Decode (layer 4). Conditions: at most 10^9 bytes.
-/
set_option maxRecDepth 100000
namespace Go.Proofs.Ythnhdeieimgfhaa
open Go Go.RowKit

set_option maxHeartbeats 4000000 in
theorem Decode_calls (A : Option Addr) (n c : Nat) (b : List UInt8) (w : World) (B : Nat) (hR : Reads w B 1 A n (bys b)) (hB : B ≤ w.heap.size) (hn : n ≤ 1000000000) :
    Calls Try.prog 123 #[.slice A n c] w fun e w' =>
      ∃ v', e = .returned (.tuple #[v', .int .i64 (decC b)]) ∧ OwnE w' w.heap.size v' (decL b) ∧ Below w.heap.size w w' := by
  have hbl : b.length = n := by simpa using hR.len
  have hle : b.length ≤ 1000000000 := by omega
  clear hbl
  go_enter Try.func123, Try.ntmps123
  go_wp2_with fail
  refine (New_calls A n c b w B hR hB hn).mono ?_
  rintro e w1 ⟨g, rfl, hg, hr1, hb1⟩
  go_wp2_with fail
  refine (RNumber_calls g b false w1 hr1).mono ?_
  rintro e w2 ⟨rfl, hr2, hg2⟩
  have hgl := hr1.lt
  have hz2 := hg2.size
  have hbw : Below w.heap.size w w2 := hb1.trans (below_of_mut hg2 hg hb1.size)
  have hlt := rdN_lt b false
  have hle2 := rdN_len b false
  have HD : Hid (decE b = if decide ((rdN b false).1 ≤ 16) && !(rdAs (rdN b false).1 (rdN b false).2.1 (rdN b false).2.2).2.2 && (rdAs (rdN b false).1 (rdN b false).2.1 (rdN b false).2.2).2.1.isEmpty && okE (rdAs (rdN b false).1 (rdN b false).2.1 (rdN b false).2.2).1 then some (rdAs (rdN b false).1 (rdN b false).2.1 (rdN b false).2.2).1 else none) := Lib.hid rfl
  generalize rdN b false = a at *
  obtain ⟨m, l, bad⟩ := a
  simp only at hr2 hlt hle2 HD ⊢
  clear hr1 hb1 hR
  by_cases h16 : m ≤ 16
  rotate_left
  · have h16' : (16 : Int) < (m : Int) := by omega
    have HE : Hid (decC b = 40) := Lib.hid (by have := HD.out; simp [h16] at this; simp [decC, this])
    have HL : Hid (decL b = []) := Lib.hid (by have := HD.out; simp [h16] at this; simp [decL, this])
    go_wp2
    go_ret2
    exact ⟨_, by rw [HE.out]; rfl, by rw [HL.out]; exact World.ownsRow_nil _ _ _ _, hbw⟩
  have h16' : ¬ (16 : Int) < (m : Int) := by omega
  go_wp2_with fail
  go_loopw [6, 7, 15] (fun v _ i wk => ∃ k : Nat, k ≤ m ∧ i = .int .u64 (k : Int) ∧ OwnE wk w1.heap.size v (rdAs k l bad).1 ∧ Rd wk g (rdAs k l bad).2.1 (rdAs k l bad).2.2 ∧ Below w.heap.size w wk ∧ w1.heap.size ≤ wk.heap.size) (fun _ _ i _ => m - (intOf i).toNat)
  case atStart => exact ⟨0, by omega, rfl, World.ownsRow_nil _ _ _ _, hr2, hbw, hz2⟩
  case round =>
    obtain ⟨k, hk, rfl, hown, hrd, hb, hz⟩ := hrel
    by_cases hlt : k < m
    · have hki : (k : Int) < (m : Int) := by omega
      have hlk := rdAs_len k l bad
      have hfit : ∀ s, rdAs k l bad = s → rdAs (k + 1) l bad = (s.1 ++ [(rdA s.2.1 s.2.2).1], (rdA s.2.1 s.2.2).2) := fun s e => by subst e; rfl
      generalize hs : rdAs k l bad = s at *
      have hfit := hfit s rfl
      obtain ⟨ats, lk, wk⟩ := s
      simp only at hown hrd hlk
      obtain ⟨hlk1, hlk2⟩ := hlk
      have HLK := Lib.hid hlk2
      have hasl : ats.length ≤ 16 := by omega
      clear hlk2
      have C1 := Lib.hid (RBytes_calls g lk wk 16 wr hrd (by omega) (by omega) (by omega))
      have hl1 := rdB_len 16 lk wk
      have HF : Hid (rdAs (k + 1) l bad = (ats ++ [((⟨(rdB 16 lk wk).1.toArray⟩, (rdV (rdB 16 lk wk).2.1 (rdB 16 lk wk).2.2).1.1, (rdV (rdB 16 lk wk).2.1 (rdB 16 lk wk).2.2).1.2.1, ⟨(rdV (rdB 16 lk wk).2.1 (rdB 16 lk wk).2.2).1.2.2.toArray⟩) : Att)], (rdV (rdB 16 lk wk).2.1 (rdB 16 lk wk).2.2).2)) := Lib.hid hfit
      clear hfit hs
      have hl2 := rdV_len (rdB 16 lk wk).2.1 (rdB 16 lk wk).2.2
      have C2 : Hid (∀ W, Rd W g (rdB 16 lk wk).2.1 (rdB 16 lk wk).2.2 → Calls Try.prog 137 #[.pointer (some ⟨g, 0, none⟩)] W fun e w' => e = .returned (vd (rdV (rdB 16 lk wk).2.1 (rdB 16 lk wk).2.2).1) ∧ Went g (rdV (rdB 16 lk wk).2.1 (rdB 16 lk wk).2.2).2.1 (rdV (rdB 16 lk wk).2.1 (rdB 16 lk wk).2.2).2.2 W w') := Lib.hid fun W hW => RValue_calls g _ _ W hW (by omega)
      generalize rdB 16 lk wk = sb at *
      obtain ⟨nm, lb, wb⟩ := sb
      simp only at C1 C2 HF hl1 hl2
      generalize rdV lb wb = sv at *
      obtain ⟨⟨vk, vn, vt⟩, lv, wv⟩ := sv
      simp only [vd] at C2 HF hl2
      have hgz : g < wr.heap.size := by omega
      go_wp2_with fail
      refine C1.out.mono ?_
      rintro e w3 ⟨v3, rfl, ho3, hr3, hg3⟩
      have hst := str (sl_own ho3)
      have hz3 := hg3.size
      have hown3 := row_mut hown hg3 hgl
      have hb3 : Below w.heap.size w w3 := hb.trans (below_of_mut hg3 hg hb.size)
      clear hown hrd hg3 hb C1
      go_wp2_with fail
      refine (C2.out _ hr3).mono ?_
      rintro e w4 ⟨rfl, hr4, hg4⟩
      have hz4 := hg4.size
      have hown4 := row_mut hown3 hg4 hgl
      have hb4 : Below w.heap.size w w4 := hb3.trans (below_of_mut hg4 hg hb3.size)
      clear hown3 hr3 hg4 hb3 C2 hst ho3
      go_wp2_with (at_builtin; refine wpList_app rfl _ _ 124 rfl w1.heap.size 158 _ 4 48 TE _ _ _ rfl (World.ownsRow.alloc hown4 _) (w4.heap.size + 1) _ 1 1 (attc (⟨nm.toArray⟩, vk, vn, ⟨vt.toArray⟩)) rfl ?c1 ?c2 ?c3 ?c5 ?_)
      case c1 => exact Reads.new w4 (attc (⟨nm.toArray⟩, vk, vn, ⟨vt.toArray⟩)) 158 4 1 rfl
      case c2 => exact attc_one _
      case c3 => omega
      case c5 => simp; omega
      intro v5 w5 hown5 hg5 hat5 hb5
      have hown6 : OwnE w5 w1.heap.size v5 (rdAs (k + 1) l bad).1 := by
        rw [HF.out]
        unfold OwnE
        simpa [List.flatMap_append] using hown5
      have hr5 : Rd w5 g (rdAs (k + 1) l bad).2.1 (rdAs (k + 1) l bad).2.2 := by
        rw [HF.out]
        exact (hr4.below (Below.alloc (Below.refl _ _) (Nat.le_refl _) _) hr4.lt).below hb5 hgl
      have hbw5 : Below w.heap.size w w5 := (hb4.alloc hb4.size _).trans (hb5.mono (by omega))
      have hz5 : w1.heap.size ≤ w5.heap.size := by have := hb5.size; simp at this; omega
      clear hown5 hg5 hat5 hb5 hr4 hown4 hb4
      go_wp2
      go_roundw
      case rel => exact ⟨k + 1, by omega, by go_num, hown6, hr5, hbw5, hz5⟩
      case measure => simp [intOf]; omega
    · have hki : ¬ (k : Int) < (m : Int) := by omega
      obtain rfl : k = m := by omega
      clear hlt hk
      have hlk := (rdAs_len k l bad).2
      generalize rdAs k l bad = s at *
      obtain ⟨ats, lk, wk⟩ := s
      simp only at hown hrd HD hlk
      have HLK := Lib.hid hlk
      clear hlk
      have hcomp : ∀ x : Bool, x = (!wk && lk.isEmpty && okE ats) → Hid (decC b = (if x then 0 else 40)) ∧ Hid (decL b = if x then ats else []) := by
        intro x hx
        have h := HD.out
        rw [show (decide (k ≤ 16)) = true by simp; omega] at h
        cases x with
        | true => rw [Bool.true_and, ← hx] at h; exact ⟨Lib.hid (by simp [decC, h]), Lib.hid (by simp [decL, h])⟩
        | false => rw [Bool.true_and, ← hx] at h; exact ⟨Lib.hid (by simp [decC, h]), Lib.hid (by simp [decL, h])⟩
      have HCO := Lib.hid hcomp
      clear hcomp
      go_wp2_with fail
      refine (Done_calls g _ _ wr hrd).mono ?_
      rintro e w' ⟨rfl, rfl⟩
      cases hd : (!wk && lk.isEmpty)
      · obtain ⟨HE, HL⟩ := HCO.out false (by rw [hd]; rfl)
        go_wp2
        go_ret2
        exact ⟨_, by rw [HE.out]; rfl, by rw [HL.out]; exact World.ownsRow_nil _ _ _ _, hb⟩
      · obtain ⟨A', c', rfl, hR', _, _⟩ := hown.slice
        have hrow := row_base (Nat.le_trans hg (Nat.le_of_lt hgl)) hown
        go_wp2_with fail
        refine (ECheck_calls A' c' ats wr wr.heap.size hR' (Nat.le_refl _)).mono ?_
        rintro e w6 ⟨rfl, hb6⟩
        have hbw6 := hb.trans (hb6.mono hb.size)
        have hrow6 := row_below hrow hb6
        cases hok : okE ats
        · have hne : (chkE ats != 0) = true := by simp [chkE, hok]
          obtain ⟨HE, HL⟩ := HCO.out false (by rw [hd, hok]; rfl)
          go_wp2
          go_ret2
          exact ⟨_, by rw [HE.out]; rfl, by rw [HL.out]; exact World.ownsRow_nil _ _ _ _, hbw6⟩
        · have hne : (chkE ats != 0) = false := by simp [chkE, hok]
          obtain ⟨HE, HL⟩ := HCO.out true (by rw [hd, hok]; rfl)
          go_wp2
          go_ret2
          exact ⟨_, by rw [HE.out]; rfl, by rw [HL.out]; exact hrow6, hbw6⟩
section
variable {l la lb : List Att} {b : List UInt8} {v va vb : Value} {w : World}
theorem Decode_sl (h : sl b v w) (hn : b.length ≤ 1000000000) : Calls Try.prog 123 #[v] w fun e w' =>
    ∃ v', e = .returned (.tuple #[v', .int .i64 (decC b)]) ∧ OwnE w' w.heap.size v' (decL b) ∧ Below w.heap.size w w' := by
  obtain ⟨A, c, rfl, hR⟩ := h
  exact Decode_calls A _ c b w _ hR (Nat.le_refl _) hn
end
end Go.Proofs.Ythnhdeieimgfhaa

/-
  The walk of the document's Same of events (layer 4). Conditions: none.
-/
set_option maxRecDepth 100000
namespace Go.Proofs.Ythnhdeieimgfhaa
open Go Go.RowKit

theorem take_eq_succ {α : Type} (a b : List α) (k : Nat) (ha : k < a.length) (hb : k < b.length) (h : a.take k = b.take k) : (a.take (k + 1) = b.take (k + 1)) ↔ a[k] = b[k] := by
  rw [List.take_succ_eq_append_getElem ha, List.take_succ_eq_append_getElem hb, h]
  constructor
  · intro e
    have := List.append_cancel_left e
    simpa using this
  · intro e; rw [e]

set_option maxHeartbeats 2000000 in
theorem Same_calls (A D : Option Addr) (c d : Nat) (la lb : List Att) (w : World) (B B' : Nat) (hR : Reads w B 4 A la.length (la.flatMap attc)) (hB : B ≤ w.heap.size) (hS : Reads w B' 4 D lb.length (lb.flatMap attc)) (hB' : B' ≤ w.heap.size) (hlen : la.length ≤ 1000000) :
    Calls Try.prog 111 #[.slice A la.length c, .slice D lb.length d] w fun e w' => e = .returned (.bool (decide (la = lb))) ∧ Below w.heap.size w w' := by
  have HA := Lib.hid hR
  have HD := Lib.hid hS
  clear hR hS
  by_cases hl : la.length = lb.length
  rotate_left
  · have hb1 : ((la.length : Int) != (lb.length : Int)) = true := by rw [bne_iff_ne]; omega
    have HE : Hid (decide (la = lb) = false) := Lib.hid (by simp; rintro rfl; exact hl rfl)
    clear hl
    go_enter Try.func111, Try.ntmps111
    go_wp2
    go_ret
    exact ⟨by rw [HE.out]; rfl, Below.refl _ _⟩
  have hb1 : ((la.length : Int) != (lb.length : Int)) = false := by rw [bne_eq_false_iff_eq]; omega
  have HL := Lib.hid hl
  have hl1 : la.length ≤ lb.length := by omega
  clear hl
  go_enter Try.func111, Try.ntmps111
  go_wp2_with fail
  go_loopw [5] (fun i wr => ∃ k : Nat, k ≤ la.length ∧ i = .int .i64 (k : Int) ∧ Hid (la.take k = lb.take k) ∧ Below w.heap.size w wr) (fun i _ => la.length - (intOf i).toNat)
  case atStart => exact ⟨0, by omega, rfl, Lib.hid (by simp), Below.refl _ _⟩
  case round =>
    obtain ⟨k, hk, rfl, hall, hb⟩ := hrel
    by_cases hlt : k < la.length
    · have hki : (k : Int) < (la.length : Int) := by omega
      have hlt2 : k < lb.length := by omega
      have hki2 : (k : Int) < (lb.length : Int) := by omega
      have hki0 : (0 : Int) ≤ (k : Int) := by omega
      obtain ⟨b, off, rfl, hbB, hcell⟩ := HA.out.atts (by omega)
      obtain ⟨e, eo, rfl, heB, hcelle⟩ := HD.out.atts (by omega)
      have hbw : b < w.heap.size := Nat.lt_of_lt_of_le hbB hB
      have hew : e < w.heap.size := Nat.lt_of_lt_of_le heB hB'
      obtain ⟨e0, e1, e2, e3⟩ := hcell k hlt
      obtain ⟨f0, f1, f2, f3⟩ := hcelle k hlt2
      have a0 := (hb.cell (p := ⟨b, off + k * 4, none⟩) hbw).trans e0
      have a1 := (hb.cell (p := ⟨b, off + k * 4 + 1, none⟩) hbw).trans e1
      have a2 := (hb.cell (p := ⟨b, off + k * 4 + 2, none⟩) hbw).trans e2
      have a3 := (hb.cell (p := ⟨b, off + k * 4 + 3, none⟩) hbw).trans e3
      have d0 := (hb.cell (p := ⟨e, eo + k * 4, none⟩) hew).trans f0
      have d1 := (hb.cell (p := ⟨e, eo + k * 4 + 1, none⟩) hew).trans f1
      have d2 := (hb.cell (p := ⟨e, eo + k * 4 + 2, none⟩) hew).trans f2
      have d3 := (hb.cell (p := ⟨e, eo + k * 4 + 3, none⟩) hew).trans f3
      have hT := Lib.hid (take_eq_succ la lb k hlt hlt2 hall.out)
      have HF : Hid (la[k] ≠ lb[k] → decide (la = lb) = false) := Lib.hid fun h => by
        simp; rintro rfl; exact h rfl
      clear e0 e1 e2 e3 f0 f1 f2 f3 hcell hcelle
      generalize la[k] = x at *
      generalize lb[k] = y at *
      have hne := neq_att x y
      obtain ⟨xs, xk, xn, xt⟩ := x
      obtain ⟨ys, yk, yn, yt⟩ := y
      simp only at a0 a1 a2 a3 d0 d1 d2 d3 hne
      generalize hq : decide ((xs, xk, xn, xt) = (ys, yk, yn, yt)) = q at *
      have HQ := Lib.hid hq
      have HNE := Lib.hid hne
      clear hq hne
      go_wp2_with fail
      obtain ⟨C, hC⟩ : ∃ C : World → Prop, C = fun W => Below wr.heap.size wr W := ⟨_, rfl⟩
      have hg : ∀ W W', C W → Below W.heap.size W W' → C W' := by
        subst hC
        exact fun W W' h1 hb => h1.trans (hb.mono h1.size)
      have hc0 : C wr := by rw [hC]; exact Below.refl _ _
      have hz := hb.size
      refine wp_region_grow C [isV (.slice (some ⟨b, off, none⟩) la.length c), isV (.int .i64 (k : Int)), isV (.pointer (some ⟨b, off + k * 4, none⟩)), isV (attv (xs, xk, xn, xt)), isV (.slice (some ⟨e, eo, none⟩) lb.length d), isV (.int .i64 (k : Int)), isV (.pointer (some ⟨e, eo + k * 4, none⟩)), isV (attv (ys, yk, yn, yt)), isV (.bool (!q))]
        [([], []), ([], []), ([0, 1], [(17, 0), (18, 1)]), ([2], [(19, 2)]), ([], []), ([], []), ([4, 5], [(21, 4), (22, 5)]), ([6], [(23, 6)]), ([3, 7], [(20, 3), (24, 7)])] 26 rfl (by kernel_rfl) (by kernel_rfl) (by kernel_rfl) hg (by exact hg _ _ hc0 (Below.drew (Below.refl _ _))) ?st ?ow ?_
      case st =>
        simp only [List.forall_mem_cons]
        and_intros
        all_goals first | exact isV_st _ | simp
      case ow =>
        simp only [OwedQ]
        and_intros
        all_goals try trivial
        all_goals
          intro V w' hc hp
          rw [hC] at hc
          have hcl := fun p h => hc.cell (p := p) h
          have c0 := (hc.cell (p := ⟨b, off + k * 4, none⟩) (by simp; omega)).trans a0
          have c1 := (hc.cell (p := ⟨b, off + k * 4 + 1, none⟩) (by simp; omega)).trans a1
          have c2 := (hc.cell (p := ⟨b, off + k * 4 + 2, none⟩) (by simp; omega)).trans a2
          have c3 := (hc.cell (p := ⟨b, off + k * 4 + 3, none⟩) (by simp; omega)).trans a3
          have g0 := (hc.cell (p := ⟨e, eo + k * 4, none⟩) (by simp; omega)).trans d0
          have g1 := (hc.cell (p := ⟨e, eo + k * 4 + 1, none⟩) (by simp; omega)).trans d1
          have g2 := (hc.cell (p := ⟨e, eo + k * 4 + 2, none⟩) (by simp; omega)).trans d2
          have g3 := (hc.cell (p := ⟨e, eo + k * 4 + 3, none⟩) (by simp; omega)).trans d3
          try simp only [List.forall_mem_cons, tab_zero, tab_succ, isV] at hp
          try simp [wantsG, rhoP, List.lookup, hp, tab_zero, tab_succ, ResG, execOp, bareOp, isV, undef, Below.refl, c0, c1, c2, c3, g0, g1, g2, g3, hlt, hlt2, HNE.out, go_sem]
      intro V W hc hp
      have h8 := hp 8 (by simp)
      simp only [tab_zero, tab_succ, isV] at h8
      rw [hC] at hc
      clear hp hg hc0 hC
      simp only [putAll, Act.put, List.setIfInBounds_toArray, List.set_cons_succ, List.set_cons_zero, h8]
      have hbW := hb.trans (hc.mono hz)
      clear hc hb HNE
      cases q
      · have HE : Hid (decide (la = lb) = false) := Lib.hid (HF.out (by have := HQ.out; simpa using this))
        go_wp2
        go_ret
        exact ⟨by rw [HE.out]; rfl, hbW⟩
      · have hr : Hid (la.take (k + 1) = lb.take (k + 1)) := Lib.hid (hT.out.2 (by have := HQ.out; simpa using this))
        go_wp2
        go_roundw
        case rel => exact ⟨k + 1, by omega, by go_num, hr, hbW⟩
        case measure => simp [intOf]; omega
    · have hki : ¬ (k : Int) < (la.length : Int) := by omega
      have HE : Hid (decide (la = lb) = true) := by
        refine Lib.hid ?_
        have h1 := hall.out
        have h2 := HL.out
        rw [List.take_of_length_le (by omega), List.take_of_length_le (by omega)] at h1
        simp [h1]
      go_wp2
      go_ret
      exact ⟨by rw [HE.out]; rfl, hb⟩

section
variable {l la lb : List Att} {b : List UInt8} {v va vb : Value} {w : World}
theorem Same_evt (h : evt la va w) (k : evt lb vb w) (hlen : la.length ≤ 1000000) : Calls Try.prog 111 #[va, vb] w fun e w' => e = .returned (.bool (decide (la = lb))) ∧ Below w.heap.size w w' := by
  obtain ⟨A, c, rfl, hR⟩ := h
  obtain ⟨D, d, rfl, hS⟩ := k
  exact Same_calls A D c d la lb w _ _ hR (Nat.le_refl _) hS (Nat.le_refl _) hlen
end
end Go.Proofs.Ythnhdeieimgfhaa

/-
  Items that are packed one behind the other and read so: plain laws for lists of them. Conditions: none beyond those stated.
-/
namespace Go.Proofs.Ythnhdeieimgfhaa
open Go Go.RowKit

/-- What a reader tells of bytes: the item, what is left, whether something is wrong. -/
abbrev Rdr (α : Type) := List UInt8 → Bool → α × List UInt8 × Bool
/-- What is packed is read; what is read was packed so. -/
structure Codec {α : Type} (enc : α → List UInt8) (ok : α → Prop) (rd : Rdr α) : Prop where
  fwd : ∀ x, ok x → ∀ rest, rd (enc x ++ rest) false = (x, rest, false)
  back : ∀ l wr, (rd l wr).2.2 = false → l = enc (rd l wr).1 ++ (rd l wr).2.1 ∧ wr = false
  len : ∀ l wr, (rd l wr).2.1.length ≤ l.length
/-- Some items, one behind the other. -/
def rdL {α : Type} (rd : Rdr α) : Nat → Rdr (List α)
  | 0, l, wr => ([], l, wr)
  | k + 1, l, wr => ((rdL rd k l wr).1 ++ [(rd (rdL rd k l wr).2.1 (rdL rd k l wr).2.2).1], (rd (rdL rd k l wr).2.1 (rdL rd k l wr).2.2).2)

section
variable {α : Type} {enc : α → List UInt8} {ok : α → Prop} {rd : Rdr α}
theorem Codec.bad (C : Codec enc ok rd) (l : List UInt8) : (rd l true).2.2 = true := by
  cases h : (rd l true).2.2 with
  | true => rfl
  | false => have := (C.back l true h).2; cases this
theorem rdL_len (C : Codec enc ok rd) (k : Nat) (l : List UInt8) (wr : Bool) : (rdL rd k l wr).2.1.length ≤ l.length ∧ (rdL rd k l wr).1.length = k := by
  induction k with
  | zero => exact ⟨Nat.le_refl _, rfl⟩
  | succ k ih => exact ⟨Nat.le_trans (C.len _ _) ih.1, by simp [rdL, ih.2]⟩
theorem rdL_bad (C : Codec enc ok rd) {k : Nat} {l : List UInt8} {wr : Bool} (h : (rdL rd k l wr).2.2 = true) : ∀ d, (rdL rd (k + d) l wr).2.2 = true
  | 0 => h
  | d + 1 => by
    have := rdL_bad C h d
    show (rd (rdL rd (k + d) l wr).2.1 (rdL rd (k + d) l wr).2.2).2.2 = true
    rw [this]
    exact C.bad _
theorem rdL_all (p : α → Prop) (hp : ∀ l wr, p (rd l wr).1) (k : Nat) (l : List UInt8) (wr : Bool) : ∀ x ∈ (rdL rd k l wr).1, p x := by
  induction k with
  | zero => simp [rdL]
  | succ k ih =>
    intro x hx
    rcases List.mem_append.1 hx with hx | hx
    · exact ih x hx
    · simp only [List.mem_singleton] at hx
      subst hx
      exact hp _ _
theorem rdL_fwd (C : Codec enc ok rd) (l : List α) (h : ∀ x ∈ l, ok x) (rest : List UInt8) : ∀ k, k ≤ l.length → rdL rd k (l.flatMap enc ++ rest) false = (l.take k, (l.drop k).flatMap enc ++ rest, false) := by
  intro k
  induction k with
  | zero => intro _; simp [rdL]
  | succ k ih =>
    intro hk
    have hk' : k < l.length := by omega
    have hd : l.drop k = l[k] :: l.drop (k + 1) := by rw [List.getElem_cons_drop]
    have hx := h l[k] (List.getElem_mem hk')
    show ((rdL rd k (l.flatMap enc ++ rest) false).1 ++ [(rd (rdL rd k (l.flatMap enc ++ rest) false).2.1 (rdL rd k (l.flatMap enc ++ rest) false).2.2).1], (rd (rdL rd k (l.flatMap enc ++ rest) false).2.1 (rdL rd k (l.flatMap enc ++ rest) false).2.2).2) = _
    rw [ih (by omega)]
    simp only
    rw [hd, List.flatMap_cons, List.append_assoc, C.fwd _ hx, List.take_succ_eq_append_getElem hk']
theorem rdL_back (C : Codec enc ok rd) {k : Nat} {l : List UInt8} {wr : Bool} (h : (rdL rd k l wr).2.2 = false) : l = (rdL rd k l wr).1.flatMap enc ++ (rdL rd k l wr).2.1 ∧ wr = false := by
  induction k with
  | zero => exact ⟨by simp [rdL], h⟩
  | succ k ih =>
    obtain ⟨e1, w1⟩ := C.back (rdL rd k l wr).2.1 (rdL rd k l wr).2.2 h
    obtain ⟨e2, w2⟩ := ih w1
    refine ⟨?_, w2⟩
    show l = ((rdL rd k l wr).1 ++ [(rd (rdL rd k l wr).2.1 (rdL rd k l wr).2.2).1]).flatMap enc ++ (rd (rdL rd k l wr).2.1 (rdL rd k l wr).2.2).2.1
    rw [List.flatMap_append, List.flatMap_cons, List.flatMap_nil, List.append_nil, List.append_assoc, ← e1]
    exact e2
end
end Go.Proofs.Ythnhdeieimgfhaa

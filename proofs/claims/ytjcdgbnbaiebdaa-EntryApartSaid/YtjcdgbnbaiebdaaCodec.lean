/-
  Items that are packed one behind the other and read so: plain laws for lists of them. Conditions: none beyond those stated.
-/
import Derived.Test.YtjcdgbnbaiebdaaPackPlain
namespace Go.Proofs.Ytjcdgbnbaiebdaa
open Go Go.RowKit

/-- What a reader tells of bytes: the item, what is left, whether something is wrong. -/
abbrev Rdr (α : Type) := List UInt8 → Bool → α × List UInt8 × Bool
/-- What is packed is read; what is read was packed so. -/
structure Codec {α : Type} (enc : α → List UInt8) (ok : α → Prop) (rd : Rdr α) : Prop where
  fwd : ∀ x, ok x → ∀ rest, rd (enc x ++ rest) false = (x, rest, false)
  back : ∀ l wr, (rd l wr).2.2 = false → l = enc (rd l wr).1 ++ (rd l wr).2.1 ∧ wr = false
  len : ∀ l wr, (rd l wr).2.1.length ≤ l.length
/-- Some items, one behind the other. -/
def rdL {α : Type} (rd : Rdr α) : Nat → Rdr (List α)
  | 0, l, wr => ([], l, wr)
  | k + 1, l, wr => ((rdL rd k l wr).1 ++ [(rd (rdL rd k l wr).2.1 (rdL rd k l wr).2.2).1], (rd (rdL rd k l wr).2.1 (rdL rd k l wr).2.2).2)

section
variable {α : Type} {enc : α → List UInt8} {ok : α → Prop} {rd : Rdr α}
theorem Codec.bad (C : Codec enc ok rd) (l : List UInt8) : (rd l true).2.2 = true := by
  cases h : (rd l true).2.2 with
  | true => rfl
  | false => have := (C.back l true h).2; cases this
theorem rdL_len (C : Codec enc ok rd) (k : Nat) (l : List UInt8) (wr : Bool) : (rdL rd k l wr).2.1.length ≤ l.length ∧ (rdL rd k l wr).1.length = k := by
  induction k with
  | zero => exact ⟨Nat.le_refl _, rfl⟩
  | succ k ih => exact ⟨Nat.le_trans (C.len _ _) ih.1, by simp [rdL, ih.2]⟩
theorem rdL_bad (C : Codec enc ok rd) {k : Nat} {l : List UInt8} {wr : Bool} (h : (rdL rd k l wr).2.2 = true) : ∀ d, (rdL rd (k + d) l wr).2.2 = true
  | 0 => h
  | d + 1 => by
    have := rdL_bad C h d
    show (rd (rdL rd (k + d) l wr).2.1 (rdL rd (k + d) l wr).2.2).2.2 = true
    rw [this]
    exact C.bad _
theorem rdL_all (p : α → Prop) (hp : ∀ l wr, p (rd l wr).1) (k : Nat) (l : List UInt8) (wr : Bool) : ∀ x ∈ (rdL rd k l wr).1, p x := by
  induction k with
  | zero => simp [rdL]
  | succ k ih =>
    intro x hx
    rcases List.mem_append.1 hx with hx | hx
    · exact ih x hx
    · simp only [List.mem_singleton] at hx
      subst hx
      exact hp _ _
theorem rdL_fwd (C : Codec enc ok rd) (l : List α) (h : ∀ x ∈ l, ok x) (rest : List UInt8) : ∀ k, k ≤ l.length → rdL rd k (l.flatMap enc ++ rest) false = (l.take k, (l.drop k).flatMap enc ++ rest, false) := by
  intro k
  induction k with
  | zero => intro _; simp [rdL]
  | succ k ih =>
    intro hk
    have hk' : k < l.length := by omega
    have hd : l.drop k = l[k] :: l.drop (k + 1) := by rw [List.getElem_cons_drop]
    have hx := h l[k] (List.getElem_mem hk')
    show ((rdL rd k (l.flatMap enc ++ rest) false).1 ++ [(rd (rdL rd k (l.flatMap enc ++ rest) false).2.1 (rdL rd k (l.flatMap enc ++ rest) false).2.2).1], (rd (rdL rd k (l.flatMap enc ++ rest) false).2.1 (rdL rd k (l.flatMap enc ++ rest) false).2.2).2) = _
    rw [ih (by omega)]
    simp only
    rw [hd, List.flatMap_cons, List.append_assoc, C.fwd _ hx, List.take_succ_eq_append_getElem hk']
theorem rdL_back (C : Codec enc ok rd) {k : Nat} {l : List UInt8} {wr : Bool} (h : (rdL rd k l wr).2.2 = false) : l = (rdL rd k l wr).1.flatMap enc ++ (rdL rd k l wr).2.1 ∧ wr = false := by
  induction k with
  | zero => exact ⟨by simp [rdL], h⟩
  | succ k ih =>
    obtain ⟨e1, w1⟩ := C.back (rdL rd k l wr).2.1 (rdL rd k l wr).2.2 h
    obtain ⟨e2, w2⟩ := ih w1
    refine ⟨?_, w2⟩
    show l = ((rdL rd k l wr).1 ++ [(rd (rdL rd k l wr).2.1 (rdL rd k l wr).2.2).1]).flatMap enc ++ (rd (rdL rd k l wr).2.1 (rdL rd k l wr).2.2).2.1
    rw [List.flatMap_append, List.flatMap_cons, List.flatMap_nil, List.append_nil, List.append_assoc, ← e1]
    exact e2
end
end Go.Proofs.Ytjcdgbnbaiebdaa

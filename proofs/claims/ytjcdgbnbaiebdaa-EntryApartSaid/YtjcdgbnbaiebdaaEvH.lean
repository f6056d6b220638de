/-
  The walk of event.Decode (layer 4): what it returns, and that nothing that was there is changed. Conditions: at most 10^9 bytes.
-/
import Derived.Test.YtjcdgbnbaiebdaaEvB
import Derived.Test.YtjcdgbnbaiebdaaPackPlain
import Derived.Test.YtjcdgbnbaiebdaaStr
set_option maxRecDepth 100000
namespace Go.Proofs.Ytjcdgbnbaiebdaa
open Go Go.RowKit

/-- One attribute, and some, as a reader reads them: what they are, what is left, whether something is wrong. -/
def rdA (l : List UInt8) (wr : Bool) : Att × List UInt8 × Bool :=
  ((⟨(rdB 16 l wr).1.toArray⟩, (rdV (rdB 16 l wr).2.1 (rdB 16 l wr).2.2).1.1, (rdV (rdB 16 l wr).2.1 (rdB 16 l wr).2.2).1.2.1, ⟨(rdV (rdB 16 l wr).2.1 (rdB 16 l wr).2.2).1.2.2.toArray⟩), (rdV (rdB 16 l wr).2.1 (rdB 16 l wr).2.2).2)
def rdAs : Nat → List UInt8 → Bool → List Att × List UInt8 × Bool
  | 0, l, wr => ([], l, wr)
  | k + 1, l, wr => ((rdAs k l wr).1 ++ [(rdA (rdAs k l wr).2.1 (rdAs k l wr).2.2).1], (rdA (rdAs k l wr).2.1 (rdAs k l wr).2.2).2)
/-- The event that bytes are, if they are one. -/
def decS (b : List UInt8) : List Att × List UInt8 × Bool := rdAs (rdN b false).1 (rdN b false).2.1 (rdN b false).2.2
def decE (b : List UInt8) : Option (List Att) :=
  if decide ((rdN b false).1 ≤ 16) && !(decS b).2.2 && (decS b).2.1.isEmpty && okE (decS b).1 then some (decS b).1 else none
/-- What Decode tells: the event, or none; its error. -/
def decL (b : List UInt8) : List Att := (decE b).getD []
def decC (b : List UInt8) : Int := if (decE b).isSome then 0 else 40

theorem rdV_len (l : List UInt8) (wr : Bool) : (rdV l wr).2.1.length ≤ l.length := by
  have h1 := rdN_len l wr
  have h2 := rdN_len (rdN l wr).2.1 (rdN l wr).2.2
  have h3 := rdB_len 40 (rdN (rdN l wr).2.1 (rdN l wr).2.2).2.1 (rdN (rdN l wr).2.1 (rdN l wr).2.2).2.2
  simp only [rdV]
  split <;> (simp only; omega)
theorem rdV_i64 (l : List UInt8) (wr : Bool) : i64ok (rdV l wr).1.1 ∧ i64ok (rdV l wr).1.2.1 := by
  cases h : (rdV l wr).2.2
  · obtain ⟨_, h2, _, h4, h5⟩ := rdV_back h
    have := (okV_kind h2).1
    exact ⟨by unfold i64ok; omega, h4, h5⟩
  · have : (rdV l wr).1 = (0, 0, []) := by
      simp only [rdV] at h ⊢
      split at h
      · rename_i hq; rw [if_pos hq]
      · cases h
    rw [this]; unfold i64ok; simp
theorem rdA_len (l : List UInt8) (wr : Bool) : (rdA l wr).2.1.length ≤ l.length :=
  Nat.le_trans (rdV_len _ _) (rdB_len 16 l wr)
theorem rdAs_len (k : Nat) (l : List UInt8) (wr : Bool) : (rdAs k l wr).2.1.length ≤ l.length ∧ (rdAs k l wr).1.length = k := by
  induction k with
  | zero => exact ⟨Nat.le_refl _, rfl⟩
  | succ k ih => exact ⟨Nat.le_trans (rdA_len _ _) ih.1, by simp [rdAs, ih.2]⟩
theorem rdB_most (most : Int) (l : List UInt8) (wr : Bool) : (rdB most l wr).1.length ≤ most.toNat := by
  unfold rdB
  split
  · simp
  · rename_i h
    simp at h
    simp; omega
theorem rdAs_fit (k : Nat) (l : List UInt8) (wr : Bool) : ∀ x ∈ (rdAs k l wr).1, (i64ok x.2.1 ∧ i64ok x.2.2.1) ∧ x.1.size ≤ 16 := by
  induction k with
  | zero => simp [rdAs]
  | succ k ih =>
    intro x hx
    rcases List.mem_append.1 hx with hx | hx
    · exact ih x hx
    · simp only [List.mem_singleton] at hx
      subst hx
      exact ⟨rdV_i64 _ _, rdB_most 16 _ _⟩

theorem infoAtt : (Try.prog.info? 79).map (fun i => (i.zero, i.size, i.bytes)) = some (some (.agg #[.string { data := #[] }, .int .i64 0, .int .i64 0, .string { data := #[] }]), 4, 48) := by kernel_rfl
theorem TE : SliceT Try.prog 29 79 (.agg #[.string { data := #[] }, .int .i64 0, .int .i64 0, .string { data := #[] }]) 4 48 := ⟨Try.underlying29, infoAtt, rfl, by decide⟩
/-- An event that a call made. -/
abbrev OwnE (w : World) (base : Nat) (v : Value) (l : List Att) : Prop := w.ownsRow base 79 4 v l.length (l.flatMap attc)
theorem OwnE.slice {w : World} {base : Nat} {v : Value} {l : List Att} (h : OwnE w base v l) : ∃ A c, v = .slice A l.length c ∧ Reads w w.heap.size 4 A l.length (l.flatMap attc) ∧ l.length ≤ c ∧ c ≤ maxLen := by
  have h' := h
  rcases h.2 with ⟨rfl, h0⟩ | ⟨g, cap, cur, rfl, _, _, hn, hc, _⟩
  · obtain rfl : l = [] := List.eq_nil_of_length_eq_zero h0
    exact ⟨none, 0, rfl, Reads.of_own h', by simp, by simp⟩
  · exact ⟨_, _, rfl, Reads.of_own h', hn, hc⟩
theorem row_base {w : World} {base base' : Nat} {e : TypeId} {size n : Nat} {v : Value} {xs : List Value} (hb : base ≤ base') (h : w.ownsRow base' e size v n xs) : w.ownsRow base e size v n xs := by
  refine ⟨h.1, h.2.imp id ?_⟩
  rintro ⟨g, cap, cur, h1, h2, h3⟩
  exact ⟨g, cap, cur, h1, by omega, h3⟩
theorem row_below {w w' : World} {base : Nat} {e : TypeId} {size n : Nat} {v : Value} {xs : List Value} (h : w.ownsRow base e size v n xs) (hb : Below w.heap.size w w') : w'.ownsRow base e size v n xs := by
  refine ⟨h.1, h.2.imp id ?_⟩
  rintro ⟨g, cap, cur, h1, h2, h3, h4⟩
  exact ⟨g, cap, cur, h1, h2, (hb.block g (Array.getElem?_eq_some_iff.1 h3).1).trans h3, h4⟩
theorem row_mut {w w' : World} {base g : Nat} {e : TypeId} {size n : Nat} {v : Value} {xs : List Value} (h : w.ownsRow base e size v n xs) (hb : w.grownBy w' (some g)) (hg : g < base) : w'.ownsRow base e size v n xs :=
  World.ownsRow.kept h hb (.inr (by
    intro e
    have := (h.lt g e).1
    omega))
theorem attc_one (x : Att) : ∀ u ∈ attc x, u.oneCell' = true := by
  intro u hu
  simp at hu
  rcases hu with rfl | rfl | rfl | rfl <;> rfl

theorem evt_own {w : World} {base : Nat} {v : Value} {l : List Att} (h : OwnE w base v l) : evt l v w := by
  obtain ⟨A, c, rfl, hr, _⟩ := h.slice
  exact ⟨A, c, rfl, hr⟩

theorem decL_len (b : List UInt8) : (decL b).length ≤ 1000000 := by
  unfold decL decE
  split
  · rename_i h
    simp only [Bool.and_eq_true, decide_eq_true_eq] at h
    have := (rdAs_len (rdN b false).1 (rdN b false).2.1 (rdN b false).2.2).2
    show (decS b).1.length ≤ _
    unfold decS
    omega
  · simp

end Go.Proofs.Ytjcdgbnbaiebdaa

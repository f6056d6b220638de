/-
  Events: what may be, in plain Lean; an attribute's cells; the walks of event.Check and of the document's Check (layer 4). Conditions: none.
-/
import Derived.Test.YtjcdgbnbaiebdaaEvOpen
import Derived.Test.YtjcdgbnbaiebdaaEvA
import Derived.Test.YtjcdgbnbaiebdaaPackPlain
import Derived.Test.YtjcdgbnbaiebdaaRegion
import Derived.BigQuiet
import Derived.IntWalk
import Derived.Deep.QuietTactic
set_option maxRecDepth 100000
namespace Go.Proofs.Ytjcdgbnbaiebdaa
open Go Go.RowKit

/-- Whether an attribute may be, but for its place. -/
def okA (x : Att) : Bool := okName x.1 && okV x.2.1 x.2.2.1 x.2.2.2
/-- Whether a text comes before another one. -/
def ltS (a b : ByteArray) : Bool := Op.bytesLess a.toList b.toList
theorem less_eq : ∀ x y : List UInt8, Op.bytesLess x y = decide (x < y)
  | [], [] => by simp [Op.bytesLess]
  | _ :: _, [] => by simp [Op.bytesLess]
  | [], _ :: _ => by simp [Op.bytesLess]
  | a :: x, b :: y => by
    rw [Op.bytesLess, less_eq x y]
    simp only [List.cons_lt_cons_iff]
    by_cases h1 : a < b <;> by_cases h2 : a = b <;> simp [h1, h2]
theorem ltS_iff (a b : ByteArray) : ltS a b = true ↔ byt a < byt b := by
  unfold ltS; rw [less_eq, ByteArray.toList_eq, ByteArray.toList_eq]; simp
theorem byt_inj {a b : ByteArray} (h : byt a = byt b) : a = b := by
  cases a; cases b; simp only [ByteArray.mk.injEq]; exact Array.toList_inj.1 h
theorem byt_beq (a b : ByteArray) : (a.toList == b.toList) = decide (a = b) := by
  rw [ByteArray.toList_eq, ByteArray.toList_eq]
  by_cases h : a = b
  · subst h; simp
  · rw [beq_eq_false_iff_ne.2 (fun e => h (byt_inj e))]; simp [h]
theorem ltS_irrefl (a : ByteArray) : ltS a a = false := by
  rw [Bool.eq_false_iff, Ne, ltS_iff]; exact List.lt_irrefl _
theorem ltS_trans {a b c : ByteArray} (h : ltS a b = true) (k : ltS b c = true) : ltS a c = true := by
  rw [ltS_iff] at *; exact List.lt_trans h k
theorem ltS_tri (a b : ByteArray) : (Op.bytesLess a.toList b.toList || a.toList == b.toList) = !ltS b a := by
  have h1 : Op.bytesLess a.toList b.toList = ltS a b := rfl
  rw [h1, byt_beq]
  by_cases e : a = b
  · subst e; simp [ltS_irrefl]
  · cases h : ltS a b
    · cases k : ltS b a
      · exfalso
        have n1 : ¬ byt a < byt b := fun x => by rw [(ltS_iff a b).2 x] at h; cases h
        have n2 : ¬ byt b < byt a := fun x => by rw [(ltS_iff b a).2 x] at k; cases k
        exact e (byt_inj (List.le_antisymm (List.not_lt.1 n2) (List.not_lt.1 n1)))
      · simp [e]
    · cases k : ltS b a
      · simp
      · have := ltS_trans h k; rw [ltS_irrefl] at this; cases this

def lastN : Option ByteArray → List Att → Option ByteArray
  | p, [] => p
  | _, x :: r => lastN (some x.1) r
def behind (p : Option ByteArray) (s : ByteArray) : Bool := match p with | none => true | some y => ltS y s
/-- Whether attributes may stand behind one that has this name. -/
def okL : Option ByteArray → List Att → Bool
  | _, [] => true
  | p, x :: r => okA x && behind p x.1 && okL (some x.1) r
/-- Whether an event may be. -/
def okE (l : List Att) : Bool := decide (1 ≤ l.length) && decide (l.length ≤ 16) && okL none l
def chkE (l : List Att) : Int := if okE l then 0 else 40

theorem lastN_append (p : Option ByteArray) (a b : List Att) : lastN p (a ++ b) = lastN (lastN p a) b := by
  induction a generalizing p with
  | nil => rfl
  | cons x a ih => simp only [List.cons_append, lastN]; exact ih _
theorem okL_append (p : Option ByteArray) (a b : List Att) : okL p (a ++ b) = (okL p a && okL (lastN p a) b) := by
  induction a generalizing p with
  | nil => simp [okL, lastN]
  | cons x a ih => simp only [List.cons_append, okL, lastN, ih, Bool.and_assoc]
theorem lastN_take (l : List Att) (k : Nat) (h : k < l.length) : lastN none (l.take (k + 1)) = some l[k].1 := by
  rw [List.take_succ_eq_append_getElem h, lastN_append]; rfl
theorem okL_zero (l : List Att) (h : 0 < l.length) : okL none (l.take 1) = okA l[0] := by
  rw [List.take_succ_eq_append_getElem h]; simp [okL, behind]
theorem okL_succ (l : List Att) (k : Nat) (h : k + 1 < l.length) : okL none (l.take (k + 1 + 1)) = (okL none (l.take (k + 1)) && (okA l[k + 1] && ltS (l[k]'(by omega)).1 l[k + 1].1)) := by
  rw [List.take_succ_eq_append_getElem h, okL_append, lastN_take l k (by omega)]; simp [okL, behind]
theorem okL_bad (l : List Att) (k : Nat) (h : okL none (l.take k) = false) : okL none l = false := by
  have := okL_append none (l.take k) (l.drop k)
  rw [List.take_append_drop, h] at this
  simpa using this
theorem okE_bad (l : List Att) (k : Nat) (h : okL none (l.take k) = false) : chkE l = 40 := by simp [chkE, okE, okL_bad l k h]
theorem okE_good (l : List Att) (h1 : 1 ≤ l.length) (h2 : l.length ≤ 16) (h : okL none (l.take l.length) = true) : chkE l = 0 := by
  rw [List.take_length] at h
  simp [chkE, okE, h, h1, h2]

/-- An attribute as one value. -/
abbrev attv (x : Att) : Value := .agg #[.string x.1, .int .i64 x.2.1, .int .i64 x.2.2.1, .string x.2.2.2]
theorem atts_at (l : List Att) (k : Nat) (hk : k < l.length) : ∀ j, (hj : j < 4) → (l.flatMap attc)[k * 4 + j]? = some ((attc l[k])[j]'hj) := by
  intro j hj
  rw [List.flatMap_def, flatten_at 4 _ (by intro cs hcs; obtain ⟨y, _, rfl⟩ := List.mem_map.1 hcs; rfl) k j (by simpa using hk) hj]
  simp [hk]
theorem atts_len (l : List Att) : (l.flatMap attc).length = l.length * 4 := by
  rw [List.flatMap_def, flatten_len 4 _ (by intro cs hcs; obtain ⟨y, _, rfl⟩ := List.mem_map.1 hcs; rfl)]; simp
/-- An event that reads as attributes: where they lie. -/
theorem Reads.atts {w : World} {B n : Nat} {A : Option Addr} {l : List Att} (h : Reads w B 4 A n (l.flatMap attc)) (hl : 0 < l.length) :
    ∃ b off, A = some ⟨b, off, none⟩ ∧ b < B ∧ ∀ k (hk : k < l.length), w.cell? ⟨b, off + k * 4, none⟩ = some (.string l[k].1) ∧ w.cell? ⟨b, off + k * 4 + 1, none⟩ = some (.int .i64 l[k].2.1) ∧
      w.cell? ⟨b, off + k * 4 + 2, none⟩ = some (.int .i64 l[k].2.2.1) ∧ w.cell? ⟨b, off + k * 4 + 3, none⟩ = some (.string l[k].2.2.2) := by
  obtain ⟨b, off, e, hb, hc⟩ := h.2 (by rw [atts_len]; omega)
  refine ⟨b, off, e, hb, fun k hk => ?_⟩
  have h0 := hc _ _ (atts_at l k hk 0 (by decide))
  have h1 := hc _ _ (atts_at l k hk 1 (by decide))
  have h2 := hc _ _ (atts_at l k hk 2 (by decide))
  have h3 := hc _ _ (atts_at l k hk 3 (by decide))
  simp only [Nat.add_zero, ← Nat.add_assoc] at h0 h1 h2 h3
  exact ⟨h0, h1, h2, h3⟩
theorem Reads.attn {w : World} {B n : Nat} {A : Option Addr} {l : List Att} (h : Reads w B 4 A n (l.flatMap attc)) : n = l.length := by
  have := h.1; rw [atts_len] at this; omega

theorem below_drewN {B : Nat} {w w' : World} (h : Below B w w') (n : Nat) : Below B w (w'.drewN n) := by
  induction n with
  | zero => exact h
  | succ n ih => exact ⟨h.os, h.tape, h.output, h.size, h.block⟩

/-- A slice that reads as an event. -/
def evt (l : List Att) (v : Value) (w : World) : Prop := ∃ A c, v = .slice A l.length c ∧ Reads w w.heap.size 4 A l.length (l.flatMap attc)
theorem evt_st (l : List Att) : ∀ v w w', evt l v w → Below w.heap.size w w' → evt l v w' := by
  rintro v w w' ⟨A, c, rfl, hr⟩ hb
  exact ⟨A, c, rfl, (hr.below hb (Nat.le_refl _)).more hb.size⟩
/-- A slice of bytes, with its room. -/
def slc (B : Nat) (l : List UInt8) (v : Value) (w : World) : Prop := ∃ A c, v = .slice A l.length c ∧ Reads w B 1 A l.length (bys l) ∧ l.length ≤ c

/-- A slice of bytes that was there, with its room. -/
def bsl (l : List UInt8) (v : Value) (w : World) : Prop := slc w.heap.size l v w
theorem bsl_st (l : List UInt8) : ∀ v w w', bsl l v w → Below w.heap.size w w' → bsl l v w' := by
  rintro v w w' ⟨A, c, rfl, hr, hc⟩ hb
  exact ⟨A, c, rfl, (hr.below hb (Nat.le_refl _)).more hb.size, hc⟩
theorem bsl_sl {l : List UInt8} {v : Value} {w : World} (h : bsl l v w) : sl l v w := by
  obtain ⟨A, c, rfl, hr, _⟩ := h
  exact ⟨A, c, rfl, hr⟩
theorem bsl_rep {w : World} {v : Value} (h : repBytes w v) : ∃ l : List UInt8, bsl l v w := by
  obtain ⟨A, c, l, rfl, h1, h2, _⟩ := h
  exact ⟨l, A, c, rfl, h1, h2⟩
theorem bsl_own {w : World} {base : Nat} {e : TypeId} {v : Value} {l : List UInt8} (h : Own w base e v l) : bsl l v w := by
  have h' := h
  rcases h.2 with ⟨rfl, h0⟩ | ⟨g, cap, cur, rfl, _, _, hn, _⟩
  · obtain rfl : l = [] := List.eq_nil_of_length_eq_zero h0
    exact ⟨none, 0, rfl, Reads.of_own h', by simp⟩
  · exact ⟨_, _, rfl, Reads.of_own h', hn⟩
theorem bsl_len {b : List UInt8} {v : Value} {w : World} (h : bsl b v w) : ∃ A c, v = .slice A b.length c := by
  obtain ⟨A, c, rfl, _⟩ := h
  exact ⟨A, c, rfl⟩
end Go.Proofs.Ytjcdgbnbaiebdaa

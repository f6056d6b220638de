/-
  What is found of an event, in plain Lean (layer 4). Conditions: none.
-/
import Derived.Test.YtjcdgbnbaiebdaaEvB
set_option maxRecDepth 100000
namespace Go.Proofs.Ytjcdgbnbaiebdaa
open Go Go.RowKit

/-- Whether an attribute has a name. -/
def isN (s : ByteArray) (x : Att) : Bool := decide (x.1 = s)
/-- What Find tells. -/
def findV (l : List Att) (s : ByteArray) : Value := match l.find? (isN s) with | some x => .tuple #[vv x.2.1 x.2.2.1 x.2.2.2, .bool true] | none => .tuple #[vv 0 0 { data := #[] }, .bool false]

theorem find_hit (l : List Att) (s : ByteArray) (k : Nat) (hk : k < l.length) (h : isN s l[k] = true) (ha : ∀ x ∈ l.take k, isN s x = false) : l.find? (isN s) = some l[k] := by
  have e : l = l.take k ++ l[k] :: l.drop (k + 1) := by rw [List.getElem_cons_drop, List.take_append_drop]
  conv => lhs; rw [e]
  rw [List.find?_append, List.find?_eq_none.2 (fun x hx => by simp [ha x hx]), List.find?_cons_of_pos h]
  rfl
theorem find_miss (l : List Att) (s : ByteArray) (ha : ∀ x ∈ l, isN s x = false) : l.find? (isN s) = none := List.find?_eq_none.2 fun x hx => by simp [ha x hx]
theorem first_of (s : ByteArray) : ∀ l : List Att, (∃ k, ∃ hk : k < l.length, isN s l[k] = true ∧ ∀ x ∈ l.take k, isN s x = false) ∨ ∀ x ∈ l, isN s x = false
  | [] => .inr (by simp)
  | y :: l => by
    cases h : isN s y with
    | true => exact .inl ⟨0, by simp, by simpa using h, by simp⟩
    | false =>
      rcases first_of s l with ⟨k, hk, h1, h2⟩ | h1
      · refine .inl ⟨k + 1, by simpa using hk, by simpa using h1, ?_⟩
        intro x hx
        rw [List.take_succ_cons] at hx
        rcases List.mem_cons.1 hx with rfl | hx
        · exact h
        · exact h2 x hx
      · refine .inr fun x hx => ?_
        rcases List.mem_cons.1 hx with rfl | hx
        · exact h
        · exact h1 x hx

theorem findV_ex (l : List Att) (s : ByteArray) : ∃ k n t b, findV l s = .tuple #[vv k n t, .bool b] := by
  unfold findV
  split
  · exact ⟨_, _, _, _, rfl⟩
  · exact ⟨_, _, _, _, rfl⟩

end Go.Proofs.Ytjcdgbnbaiebdaa

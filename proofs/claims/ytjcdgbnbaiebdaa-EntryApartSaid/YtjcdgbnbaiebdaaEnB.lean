/-
  The walks of entry.Less and of place.ahead (layer 11). Conditions: none.
-/
import Derived.Test.YtjcdgbnbaiebdaaPackB
namespace Go.Proofs.Ytjcdgbnbaiebdaa
open Go Go.RowKit

abbrev Idn := Int × Nat × Nat
abbrev idv (a : Idn) : Value := .agg #[.int .i64 a.1, .int .u64 (a.2.1 : Int), .int .u64 (a.2.2 : Int)]
/-- Which of two IDs comes first. -/
def lessI (a b : Idn) : Bool := if a.1 ≠ b.1 then decide (a.1 < b.1) else if a.2.1 ≠ b.2.1 then decide (a.2.1 < b.2.1) else decide (a.2.2 < b.2.2)

set_option maxHeartbeats 1000000 in
set_option maxRecDepth 100000 in
theorem Ahead_calls (a b : Idn) (w : World) :
    Calls Try.prog 66 #[idv a, idv b] w fun e w' => e = .returned (.bool (lessI a b)) ∧ Below w.heap.size w w' := by
  obtain ⟨a0, a1, a2⟩ := a
  obtain ⟨b0, b1, b2⟩ := b
  have hb : Below w.heap.size w (((w.alloc (.cells #[.int .i64 a0, .int .u64 (a1 : Int), .int .u64 (a2 : Int)] 111)).alloc (.cells #[.int .i64 b0, .int .u64 (b1 : Int), .int .u64 (b2 : Int)] 26)).alloc (.cells #[.int .i64 a0, .int .u64 (a1 : Int), .int .u64 (a2 : Int)] 26)) :=
    (((Below.refl _ _).alloc (Nat.le_refl _) _).alloc (by simp) _).alloc (by simp; omega) _
  by_cases h0 : a0 = b0
  · subst h0
    by_cases h1 : a1 = b1
    · subst h1
      have HE : Hid (lessI (a0, a1, a2) (a0, a1, b2) = decide (a2 < b2)) := Lib.hid (by simp [lessI])
      by_cases h2 : a2 = b2
      · subst h2
        go_enter Try.func66, Try.ntmps66
        go_wp2
        go_ret
        exact ⟨by rw [HE.out]; simp, hb⟩
      · go_enter Try.func66, Try.ntmps66
        go_wp2
        go_ret
        exact ⟨by rw [HE.out]; simp, hb⟩
    · have HE : Hid (lessI (a0, a1, a2) (a0, b1, b2) = decide (a1 < b1)) := Lib.hid (by simp [lessI, h1])
      go_enter Try.func66, Try.ntmps66
      go_wp2
      go_ret
      exact ⟨by rw [HE.out]; simp, hb⟩
  · have HE : Hid (lessI (a0, a1, a2) (b0, b1, b2) = decide (a0 < b0)) := Lib.hid (by simp [lessI, h0])
    go_enter Try.func66, Try.ntmps66
    go_wp2
    go_ret
    exact ⟨by rw [HE.out]; simp, hb⟩

set_option maxHeartbeats 1000000 in
set_option maxRecDepth 100000 in
theorem Less_calls (a b : Idn) (w : World) :
    Calls Try.prog 33 #[idv a, idv b] w fun e w' => e = .returned (.bool (lessI a b)) ∧ Below w.heap.size w w' := by
  obtain ⟨a0, a1, a2⟩ := a
  obtain ⟨b0, b1, b2⟩ := b
  have hb : Below w.heap.size w ((w.alloc (.cells #[.int .i64 a0, .int .u64 (a1 : Int), .int .u64 (a2 : Int)] 26)).alloc (.cells #[.int .i64 b0, .int .u64 (b1 : Int), .int .u64 (b2 : Int)] 26)) :=
    ((Below.refl _ _).alloc (Nat.le_refl _) _).alloc (by simp) _
  go_enter Try.func33, Try.ntmps33
  go_wp2_with fail
  refine (Ahead_calls (a0, a1, a2) (b0, b1, b2) _).mono ?_
  rintro e w1 ⟨rfl, hb1⟩
  have hbw := hb.trans (hb1.mono hb.size)
  go_wp2
  go_ret
  exact ⟨rfl, hbw⟩
end Go.Proofs.Ytjcdgbnbaiebdaa

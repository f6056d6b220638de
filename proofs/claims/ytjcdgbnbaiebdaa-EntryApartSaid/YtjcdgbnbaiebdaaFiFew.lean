/-
  The walk of the statements' Few of filters (layer 5). Conditions: none.
-/
import Derived.Test.YtjcdgbnbaiebdaaFiH
set_option maxRecDepth 100000
namespace Go.Proofs.Ytjcdgbnbaiebdaa
open Go Go.RowKit

/-- At most ten tests, of texts of at most a hundred bytes. -/
def fewF (l : List Tst) : Bool := decide (l.length ≤ 10) && l.all fun x => decide (x.1.size ≤ 100) && decide (x.2.2.2.2.size ≤ 100)
theorem fewF_bad (l : List Tst) (k : Nat) (h : k < l.length) (hb : ¬ (l[k].1.size ≤ 100 ∧ l[k].2.2.2.2.size ≤ 100)) : fewF l = false := by
  simp only [fewF, Bool.and_eq_false_iff]
  right
  rw [List.all_eq_false]
  exact ⟨l[k], List.getElem_mem h, by simpa using hb⟩
theorem fewF_good (l : List Tst) (h10 : l.length ≤ 10) (h : ∀ k (hk : k < l.length), l[k].1.size ≤ 100 ∧ l[k].2.2.2.2.size ≤ 100) : fewF l = true := by
  simp only [fewF, Bool.and_eq_true, decide_eq_true_eq, h10, true_and, List.all_eq_true]
  intro x hx
  obtain ⟨k, hk, rfl⟩ := List.getElem_of_mem hx
  exact h k hk
theorem fewF_parts {l : List Tst} (h : fewF l = true) : l.length ≤ 10 ∧ ∀ x ∈ l, x.1.size ≤ 100 ∧ x.2.2.2.2.size ≤ 100 := by
  simp only [fewF, Bool.and_eq_true, decide_eq_true_eq, List.all_eq_true] at h
  exact h

set_option maxHeartbeats 2000000 in
theorem FFew_calls (A : Option Addr) (c : Nat) (l : List Tst) (w : World) (B : Nat) (hR : Reads w B 5 A l.length (l.flatMap tstc)) (_hB : B ≤ w.heap.size) :
    Calls Try.prog 54 #[.slice A l.length c] w fun e w' => e = .returned (.bool (fewF l)) ∧ w = w' := by
  have HA := Lib.hid hR
  clear hR
  by_cases hl : l.length ≤ 10
  rotate_left
  · have hb1 : (10 : Int) < (l.length : Int) := by omega
    have HE : Hid (fewF l = false) := Lib.hid (by simp [fewF]; omega)
    clear hl
    go_enter Try.func54, Try.ntmps54
    go_wp2
    go_ret
    exact ⟨by rw [HE.out]; rfl, rfl⟩
  have hb1 : ¬ (10 : Int) < (l.length : Int) := by omega
  go_enter Try.func54, Try.ntmps54
  go_wp2_with fail
  go_loop [3] (fun i => ∃ k : Nat, k ≤ l.length ∧ i = .int .i64 (k : Int) ∧ Hid (∀ j (hj : j < l.length), j < k → l[j].1.size ≤ 100 ∧ l[j].2.2.2.2.size ≤ 100)) (fun i => l.length - (intOf i).toNat)
  case atStart => exact ⟨0, by omega, rfl, Lib.hid (fun j _ h => absurd h (by omega))⟩
  case round =>
    obtain ⟨k, hk, rfl, hall⟩ := hrel
    by_cases hlt : k < l.length
    · have hki : (k : Int) < (l.length : Int) := by omega
      obtain ⟨b, off, rfl, hbB, hcell⟩ := HA.out.tsts (by omega)
      obtain ⟨d0, d1, d2, d3, d4⟩ := hcell k hlt
      clear hcell d1 d2 d3
      have HF := Lib.hid (fewF_bad l k hlt)
      have HT : Hid (l[k].1.size ≤ 100 ∧ l[k].2.2.2.2.size ≤ 100 → ∀ j (hj : j < l.length), j < k + 1 → l[j].1.size ≤ 100 ∧ l[j].2.2.2.2.size ≤ 100) := by
        refine Lib.hid fun h j hj hjk => ?_
        by_cases e : j = k
        · subst e; exact h
        · exact hall.out j hj (by omega)
      generalize l[k] = x at *
      obtain ⟨xs, xo, xk, xn, xt⟩ := x
      simp only at d0 d4 HF HT
      by_cases h1 : xs.size ≤ 100
      · have h1' : ¬ (100 : Int) < (xs.size : Int) := by omega
        by_cases h2 : xt.size ≤ 100
        · have h2' : ¬ (100 : Int) < (xt.size : Int) := by omega
          have hr := Lib.hid (HT.out ⟨h1, h2⟩)
          go_wp2
          go_round
          case rel => exact ⟨k + 1, by omega, by go_num, hr⟩
          case measure => simp [intOf]; omega
        · have h2' : (100 : Int) < (xt.size : Int) := by omega
          have HE : Hid (fewF l = false) := Lib.hid (HF.out (by omega))
          go_wp2
          go_ret
          exact ⟨by rw [HE.out]; rfl, rfl⟩
      · have h1' : (100 : Int) < (xs.size : Int) := by omega
        have HE : Hid (fewF l = false) := Lib.hid (HF.out (by omega))
        go_wp2
        go_ret
        exact ⟨by rw [HE.out]; rfl, rfl⟩
    · have hki : ¬ (k : Int) < (l.length : Int) := by omega
      have HE : Hid (fewF l = true) := Lib.hid (fewF_good l hl fun j hj => hall.out j hj (by omega))
      go_wp2
      go_ret
      exact ⟨by rw [HE.out]; rfl, rfl⟩
section
variable {l : List Tst} {v : Value} {w : World}
theorem FFew_flt (h : flt l v w) : Calls Try.prog 54 #[v] w fun e w' => e = .returned (.bool (fewF l)) ∧ w = w' := by
  obtain ⟨A, c, rfl, hR⟩ := h
  exact FFew_calls A c l w _ hR (Nat.le_refl _)
end
theorem fewF_fit {l : List Tst} (h : fewF l = true) : l.length ≤ 1000000 ∧ ∀ x ∈ l, x.1.size ≤ 1000000000 := by
  obtain ⟨h1, h2⟩ := fewF_parts h
  exact ⟨by omega, fun x hx => by have := (h2 x hx).1; omega⟩

end Go.Proofs.Ytjcdgbnbaiebdaa

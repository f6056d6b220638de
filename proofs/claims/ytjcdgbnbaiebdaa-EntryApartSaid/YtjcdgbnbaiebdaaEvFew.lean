/-
  The walk of the statements' Few of events (layer 4). Conditions: none.
-/
import Derived.Test.YtjcdgbnbaiebdaaEvB
set_option maxRecDepth 100000
namespace Go.Proofs.Ytjcdgbnbaiebdaa
open Go Go.RowKit

/-- At most twenty attributes, of texts of at most a hundred bytes. -/
def fewE (l : List Att) : Bool := decide (l.length ≤ 20) && l.all fun x => decide (x.1.size ≤ 100) && decide (x.2.2.2.size ≤ 100)
theorem few_bad (l : List Att) (k : Nat) (h : k < l.length) (hb : ¬ (l[k].1.size ≤ 100 ∧ l[k].2.2.2.size ≤ 100)) : fewE l = false := by
  simp only [fewE, Bool.and_eq_false_iff]
  right
  rw [List.all_eq_false]
  exact ⟨l[k], List.getElem_mem h, by simpa using hb⟩
theorem few_good (l : List Att) (h20 : l.length ≤ 20) (h : ∀ k (hk : k < l.length), l[k].1.size ≤ 100 ∧ l[k].2.2.2.size ≤ 100) : fewE l = true := by
  simp only [fewE, Bool.and_eq_true, decide_eq_true_eq, h20, true_and, List.all_eq_true]
  intro x hx
  obtain ⟨k, hk, rfl⟩ := List.getElem_of_mem hx
  exact h k hk
theorem few_parts {l : List Att} (h : fewE l = true) : l.length ≤ 20 ∧ ∀ x ∈ l, x.1.size ≤ 100 ∧ x.2.2.2.size ≤ 100 := by
  simp only [fewE, Bool.and_eq_true, decide_eq_true_eq, List.all_eq_true] at h
  exact h

set_option maxHeartbeats 2000000 in
theorem Few_calls (A : Option Addr) (c : Nat) (l : List Att) (w : World) (B : Nat) (hR : Reads w B 4 A l.length (l.flatMap attc)) (_hB : B ≤ w.heap.size) :
    Calls Try.prog 21 #[.slice A l.length c] w fun e w' => e = .returned (.bool (fewE l)) ∧ w = w' := by
  have HA := Lib.hid hR
  clear hR
  by_cases hl : l.length ≤ 20
  rotate_left
  · have hb1 : (20 : Int) < (l.length : Int) := by omega
    have HE : Hid (fewE l = false) := Lib.hid (by simp [fewE]; omega)
    clear hl
    go_enter Try.func21, Try.ntmps21
    go_wp2
    go_ret
    exact ⟨by rw [HE.out]; rfl, rfl⟩
  have hb1 : ¬ (20 : Int) < (l.length : Int) := by omega
  go_enter Try.func21, Try.ntmps21
  go_wp2_with fail
  go_loop [3] (fun i => ∃ k : Nat, k ≤ l.length ∧ i = .int .i64 (k : Int) ∧ Hid (∀ j (hj : j < l.length), j < k → l[j].1.size ≤ 100 ∧ l[j].2.2.2.size ≤ 100)) (fun i => l.length - (intOf i).toNat)
  case atStart => exact ⟨0, by omega, rfl, Lib.hid (fun j _ h => absurd h (by omega))⟩
  case round =>
    obtain ⟨k, hk, rfl, hall⟩ := hrel
    by_cases hlt : k < l.length
    · have hki : (k : Int) < (l.length : Int) := by omega
      obtain ⟨b, off, rfl, hbB, hcell⟩ := HA.out.atts (by omega)
      obtain ⟨d0, d1, d2, d3⟩ := hcell k hlt
      clear hcell d1 d2
      have HF := Lib.hid (few_bad l k hlt)
      have HT : Hid (l[k].1.size ≤ 100 ∧ l[k].2.2.2.size ≤ 100 → ∀ j (hj : j < l.length), j < k + 1 → l[j].1.size ≤ 100 ∧ l[j].2.2.2.size ≤ 100) := by
        refine Lib.hid fun h j hj hjk => ?_
        by_cases e : j = k
        · subst e; exact h
        · exact hall.out j hj (by omega)
      generalize l[k] = x at *
      obtain ⟨xs, xk, xn, xt⟩ := x
      simp only at d0 d3 HF HT
      by_cases h1 : xs.size ≤ 100
      · have h1' : ¬ (100 : Int) < (xs.size : Int) := by omega
        by_cases h2 : xt.size ≤ 100
        · have h2' : ¬ (100 : Int) < (xt.size : Int) := by omega
          have hr := Lib.hid (HT.out ⟨h1, h2⟩)
          go_wp2
          go_round
          case rel => exact ⟨k + 1, by omega, by go_num, hr⟩
          case measure => simp [intOf]; omega
        · have h2' : (100 : Int) < (xt.size : Int) := by omega
          have HE : Hid (fewE l = false) := Lib.hid (HF.out (by omega))
          go_wp2
          go_ret
          exact ⟨by rw [HE.out]; rfl, rfl⟩
      · have h1' : (100 : Int) < (xs.size : Int) := by omega
        have HE : Hid (fewE l = false) := Lib.hid (HF.out (by omega))
        go_wp2
        go_ret
        exact ⟨by rw [HE.out]; rfl, rfl⟩
    · have hki : ¬ (k : Int) < (l.length : Int) := by omega
      have HE : Hid (fewE l = true) := Lib.hid (few_good l hl fun j hj => hall.out j hj (by omega))
      go_wp2
      go_ret
      exact ⟨by rw [HE.out]; rfl, rfl⟩
section
variable {l la lb : List Att} {b : List UInt8} {v va vb : Value} {w : World}
theorem Few_evt (h : evt l v w) : Calls Try.prog 21 #[v] w fun e w' => e = .returned (.bool (fewE l)) ∧ w = w' := by
  obtain ⟨A, c, rfl, hR⟩ := h
  exact Few_calls A c l w _ hR (Nat.le_refl _)
end
theorem few_fit {l : List Att} (h : fewE l = true) : l.length ≤ 1000000 ∧ ∀ x ∈ l, x.1.size ≤ 1000000000 := by
  obtain ⟨h1, h2⟩ := few_parts h
  exact ⟨by omega, fun x hx => by have := (h2 x hx).1; omega⟩

end Go.Proofs.Ytjcdgbnbaiebdaa

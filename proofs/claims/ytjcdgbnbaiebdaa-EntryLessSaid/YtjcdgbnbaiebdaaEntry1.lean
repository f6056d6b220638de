/-
  postilionlaw11.EntryLess: the walk. Conditions: none.
-/
import Derived.Test.YtjcdgbnbaiebdaaEnJ
set_option maxRecDepth 100000
namespace Go.Proofs.Ytjcdgbnbaiebdaa
open Go Go.RowKit

abbrev idA (a : Idn) : Array Value := #[.int .i64 a.1, .int .u64 (a.2.1 : Int), .int .u64 (a.2.2 : Int)]
theorem lessI_iff (a b : Idn) : lessI a b = true ↔ a.1 < b.1 ∨ (a.1 = b.1 ∧ (a.2.1 < b.2.1 ∨ (a.2.1 = b.2.1 ∧ a.2.2 < b.2.2))) := by
  unfold lessI
  split
  · simp only [decide_eq_true_eq]; omega
  · split
    · simp only [decide_eq_true_eq]; omega
    · simp only [decide_eq_true_eq]; omega
theorem lessI_irrefl (a : Idn) : lessI a a = false := by
  rw [Bool.eq_false_iff]; intro h; have := (lessI_iff a a).1 h; omega
theorem lessI_asym (a b : Idn) (h : lessI a b = true) : lessI b a = false := by
  have h1 := (lessI_iff a b).1 h
  rw [Bool.eq_false_iff]; intro h; have := (lessI_iff b a).1 h; omega
theorem lessI_total (a b : Idn) (h : ¬ a = b) : (lessI a b || lessI b a) = true := by
  have hne : ¬ (a.1 = b.1 ∧ a.2.1 = b.2.1 ∧ a.2.2 = b.2.2) := fun ⟨h0, h1, h2⟩ => h (Prod.ext h0 (Prod.ext h1 h2))
  rw [Bool.or_eq_true, lessI_iff, lessI_iff]; omega
theorem lessI_trans (a b c : Idn) (h : lessI a b = true) (k : lessI b c = true) : lessI a c = true := by
  have h1 := (lessI_iff a b).1 h
  have h2 := (lessI_iff b c).1 k
  rw [lessI_iff]; omega

set_option maxHeartbeats 2000000 in
theorem EntryLess_walk (v0 v1 v2 : Value) (w : World) (r0 : repID w v0) (r1 : repID w v1) (r2 : repID w v2) :
    Calls Try.prog 11 #[v0, v1, v2] w fun e w' => e = .returned (.bool true) ∧ Below w.heap.size w w' := by
  obtain ⟨a, rfl, -⟩ := r0
  obtain ⟨b, rfl, -⟩ := r1
  obtain ⟨c, rfl, -⟩ := r2
  have hx := ((Blk.new w 26 (idA a)).alloc (.cells (idA b) 26)).alloc (.cells (idA c) 26)
  have hy := (Blk.new (w.alloc (.cells (idA a) 26)) 26 (idA b)).alloc (.cells (idA c) 26)
  have hz := Blk.new ((w.alloc (.cells (idA a) 26)).alloc (.cells (idA b) 26)) 26 (idA c)
  have k1 : K w (((w.alloc (.cells (idA a) 26)).alloc (.cells (idA b) 26)).alloc (.cells (idA c) 26)) := (((K.rf w).al _).al _).al _
  have e1 : (w.alloc (.cells (idA a) 26)).heap.size = w.heap.size + 1 := by simp
  have e2 : ((w.alloc (.cells (idA a) 26)).alloc (.cells (idA b) 26)).heap.size = w.heap.size + 1 + 1 := by simp
  rw [e1] at hy
  rw [e2] at hz
  clear e1 e2
  have HA := Lib.hid (lessI_asym a b)
  have HI := Lib.hid (lessI_irrefl a)
  have HT := Lib.hid (lessI_total a b)
  have HR := Lib.hid (lessI_trans a b c)
  have C1 := Lib.hid (Less_calls a b)
  have C2 := Lib.hid (Less_calls b a)
  have C3 := Lib.hid (Less_calls b c)
  have C4 := Lib.hid (Less_calls a c)
  have HE : Hid (a = b → lessI a b = false ∧ lessI b a = false) := Lib.hid (by rintro rfl; exact ⟨lessI_irrefl a, lessI_irrefl a⟩)
  generalize lessI a b = one at *
  generalize lessI b a = two at *
  generalize lessI b c = three at *
  generalize lessI a c = four at *
  obtain ⟨a0, a1, a2⟩ := a
  obtain ⟨b0, b1, b2⟩ := b
  obtain ⟨c0, c1, c2⟩ := c
  have HE2 : Hid (((a0 = b0 ∧ a1 = b1 ∧ a2 = b2) → one = false ∧ two = false) ∧ (¬ (a0 = b0 ∧ a1 = b1 ∧ a2 = b2) → (one || two) = true)) := Lib.hid ⟨fun ⟨h0, h1, h2⟩ => HE.out (by rw [h0, h1, h2]), fun h => HT.out (by simpa using h)⟩
  clear HE HT HI
  go_enter Try.func11, Try.ntmps11
  go_wp2_with fail
  generalize World.alloc (World.alloc (World.alloc w _) _) _ = w1 at *
  generalize w.heap.size = g at hx hy hz ⊢
  have qx := hx.cells
  have qy := hy.cells
  have qz := hz.cells
  refine (awakeE_calls w1).mono ?_
  rintro e w2 ⟨rfl, k2⟩
  go_wp2_with fail
  refine (C1.out w2).mono ?_
  rintro e w3 ⟨rfl, k3⟩
  replace k2 := k2.tr k3
  go_wp2_with fail
  refine (C2.out w3).mono ?_
  rintro e w4 ⟨rfl, k4⟩
  replace k2 := k2.tr k4
  have k04 := k1.tr k2
  clear k3 k4 C1 C2
  cases one <;> cases two
  · go_wp2
    all_goals
      go_ret
      refine ⟨?_, k04⟩
      first | rfl | exact absurd (HE2.out.2 (by omega)) (by simp)
  · go_wp2
    all_goals
      go_ret
      refine ⟨?_, k04⟩
      first | rfl | exact absurd (HE2.out.1 (by omega)) (by simp)
  · by_cases h0 : a0 = b0
    · subst h0
      by_cases h1 : a1 = b1
      · subst h1
        have h2 : ¬ ((a2 : Int) = (b2 : Int)) := fun h => absurd (HE2.out.1 ⟨rfl, rfl, by omega⟩) (by simp)
        go_wp2_with fail
        refine (C3.out _).mono ?_
        rintro e w5 ⟨rfl, k5⟩
        replace k2 := k2.tr k5
        cases three
        · go_wp2
          go_ret
          exact ⟨rfl, k04.tr k5⟩
        · go_wp2_with fail
          refine (C4.out _).mono ?_
          rintro e w6 ⟨rfl, k6⟩
          obtain rfl : four = true := HR.out (by trivial) (by trivial)
          go_wp2
          go_ret
          exact ⟨rfl, k04.tr (k5.tr k6)⟩
      · have h1' : ¬ ((a1 : Int) = (b1 : Int)) := by omega
        go_wp2_with fail
        refine (C3.out _).mono ?_
        rintro e w5 ⟨rfl, k5⟩
        replace k2 := k2.tr k5
        cases three
        · go_wp2
          go_ret
          exact ⟨rfl, k04.tr k5⟩
        · go_wp2_with fail
          refine (C4.out _).mono ?_
          rintro e w6 ⟨rfl, k6⟩
          obtain rfl : four = true := HR.out (by trivial) (by trivial)
          go_wp2
          go_ret
          exact ⟨rfl, k04.tr (k5.tr k6)⟩
    · skip
      go_wp2_with fail
      refine (C3.out _).mono ?_
      rintro e w5 ⟨rfl, k5⟩
      replace k2 := k2.tr k5
      cases three
      · go_wp2
        go_ret
        exact ⟨rfl, k04.tr k5⟩
      · go_wp2_with fail
        refine (C4.out _).mono ?_
        rintro e w6 ⟨rfl, k6⟩
        obtain rfl : four = true := HR.out (by trivial) (by trivial)
        go_wp2
        go_ret
        exact ⟨rfl, k04.tr (k5.tr k6)⟩
  · exact absurd (HA.out rfl) (by simp)
end Go.Proofs.Ytjcdgbnbaiebdaa

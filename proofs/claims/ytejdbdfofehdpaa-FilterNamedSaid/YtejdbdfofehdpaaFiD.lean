/-
  The walks of filter.Is and of its closures. Conditions: none.
-/
import Derived.Test.YtejdbdfofehdpaaFiC
import Derived.Test.YtejdbdfofehdpaaFiB
import Derived.Test.YtejdbdfofehdpaaSmallMap
namespace Go.Proofs.Ytejdbdfofehdpaa
open Go Go.RowKit

theorem IsC1_calls (g : Nat) (o : Int) (w : World) (h : w.cell? ⟨g, 0, none⟩ = some (.int .i64 o)) :
    Calls Try.prog 41 #[.pointer (some ⟨g, 0, none⟩)] w fun e w' => e = .returned (.bool (o == 0)) ∧ w = w' := by
  go_enter Try.func41, Try.ntmps41
  go_wp2
  go_ret
  exact ⟨rfl, rfl⟩
theorem IsC2_calls (g : Nat) (o : Int) (w : World) (h : w.cell? ⟨g, 0, none⟩ = some (.int .i64 o)) :
    Calls Try.prog 42 #[.pointer (some ⟨g, 0, none⟩)] w fun e w' => e = .returned (.bool (o != 0)) ∧ w = w' := by
  go_enter Try.func42, Try.ntmps42
  go_wp2
  go_ret
  exact ⟨rfl, rfl⟩
theorem IsC3_calls (g : Nat) (o : Int) (w : World) (h : w.cell? ⟨g, 0, none⟩ = some (.int .i64 o)) :
    Calls Try.prog 43 #[.pointer (some ⟨g, 0, none⟩)] w fun e w' => e = .returned (.bool (decide (o < 0))) ∧ w = w' := by
  go_enter Try.func43, Try.ntmps43
  go_wp2
  go_ret
  exact ⟨rfl, rfl⟩
theorem IsC4_calls (g : Nat) (o : Int) (w : World) (h : w.cell? ⟨g, 0, none⟩ = some (.int .i64 o)) :
    Calls Try.prog 44 #[.pointer (some ⟨g, 0, none⟩)] w fun e w' => e = .returned (.bool (decide (o ≤ 0))) ∧ w = w' := by
  go_enter Try.func44, Try.ntmps44
  go_wp2
  go_ret
  exact ⟨rfl, rfl⟩
theorem IsC5_calls (g : Nat) (o : Int) (w : World) (h : w.cell? ⟨g, 0, none⟩ = some (.int .i64 o)) :
    Calls Try.prog 45 #[.pointer (some ⟨g, 0, none⟩)] w fun e w' => e = .returned (.bool (decide (0 < o))) ∧ w = w' := by
  go_enter Try.func45, Try.ntmps45
  go_wp2
  go_ret
  exact ⟨rfl, rfl⟩
theorem IsC6_calls (g : Nat) (o : Int) (w : World) (h : w.cell? ⟨g, 0, none⟩ = some (.int .i64 o)) :
    Calls Try.prog 46 #[.pointer (some ⟨g, 0, none⟩)] w fun e w' => e = .returned (.bool (decide (0 ≤ o))) ∧ w = w' := by
  go_enter Try.func46, Try.ntmps46
  go_wp2
  go_ret
  exact ⟨rfl, rfl⟩
theorem IsC7_calls (gv gt : Nat) (v : Vl) (t : Tst) (w : World) (hv : Blk w gv 28 #[.int .i64 v.1, .int .i64 v.2.1, .string v.2.2]) (ht : Blk w gt 30 #[.string t.1, .int .i64 t.2.1, .int .i64 t.2.2.1, .int .i64 t.2.2.2.1, .string t.2.2.2.2]) :
    Calls Try.prog 47 #[.pointer (some ⟨gv, 0, none⟩), .pointer (some ⟨gt, 0, none⟩)] w fun e w' => e = .returned (.bool (begV v t.2.2)) ∧ Below w.heap.size w w' := by
  obtain ⟨s, op, k, n, x⟩ := t
  obtain ⟨vk, vn, vt⟩ := v
  have v0 := hv.cell 0
  have v1 := hv.cell 1
  have v2 := hv.cell 2
  have t2 := ht.cell 2
  have t3 := ht.cell 3
  have t4 := ht.cell 4
  simp at v0 v1 v2 t2 t3 t4
  go_enter Try.func47, Try.ntmps47
  go_wp2_with fail
  refine (Begins_calls (vk, vn, vt) (k, n, x) _).mono ?_
  rintro e w1 ⟨rfl, hb⟩
  go_wp2
  go_ret
  exact ⟨rfl, hb⟩

set_option maxHeartbeats 4000000 in
set_option maxRecDepth 100000 in
theorem Is_calls (t : Tst) (v : Vl) (w : World) :
    Calls Try.prog 21 #[tstv t, vv v.1 v.2.1 v.2.2] w fun e w' => e = .returned (.bool (isT t v)) ∧ Below w.heap.size w w' := by
  obtain ⟨s, op, k, n, x⟩ := t
  obtain ⟨vk, vn, vt⟩ := v
  have hq : Below w.heap.size w ((w.alloc (.cells #[.string s, .int .i64 op, .int .i64 k, .int .i64 n, .string x] 30)).alloc (.cells #[.int .i64 vk, .int .i64 vn, .string vt] 28)) := ((Below.refl _ _).alloc (Nat.le_refl _) _).alloc (by simp) _
  have hx := (Blk.new w 30 #[.string s, .int .i64 op, .int .i64 k, .int .i64 n, .string x]).alloc (.cells #[.int .i64 vk, .int .i64 vn, .string vt] 28)
  have hy := Blk.new (w.alloc (.cells #[.string s, .int .i64 op, .int .i64 k, .int .i64 n, .string x] 30)) 28 #[.int .i64 vk, .int .i64 vn, .string vt]
  rw [World.size_alloc] at hy
  have hmm := @run_makeMap Try.prog
  have hzero : ∀ W : World, (zeroValue 22).run Try.prog W = .ok .nilFunc W := fun W => by kernel_rfl
  go_enter Try.func21, Try.ntmps21
  go_wp2_with fail
  refine (Order_calls (vk, vn, vt) (k, n, x) _).mono ?_
  rintro e w1 ⟨rfl, hb1⟩
  generalize ho : ordV (vk, vn, vt) (k, n, x) = o at *
  have HT : Hid (isT (s, op, k, n, x) (vk, vn, vt) = (if op == 8 then true else (vk == k) && (if op == 1 then o == 0 else if op == 2 then o != 0 else if op == 3 then decide (o < 0) else if op == 4 then decide (o ≤ 0)
    else if op == 5 then decide (0 < o) else if op == 6 then decide (0 ≤ o) else if op == 7 then begV (vk, vn, vt) (k, n, x) else false))) := Lib.hid (by rw [← ho]; rfl)
  have hlt : w.heap.size + 2 ≤ w1.heap.size := by have := hb1.size; simp at this; omega
  have hx1 := ((hx.below hb1 hx.lt).alloc (.cells #[.int .i64 o] 3)).alloc (.map #[] 0)
  have hy1 := ((hy.below hb1 hy.lt).alloc (.cells #[.int .i64 o] 3)).alloc (.map #[] 0)
  have hz1 := (Blk.new w1 3 #[.int .i64 o]).alloc (.map #[] 0)
  have hb1 : Below w.heap.size w ((w1.alloc (.cells #[.int .i64 o] 3)).alloc (.map #[] 0)) := ((hq.trans (hb1.mono hq.size)).alloc (by omega) _).alloc (by simp; omega) _
  have ho0 := MapI.new (w1.alloc (.cells #[.int .i64 o] 3))
  simp only [World.size_alloc] at ho0
  clear ho hq hx hy
  go_wp2_with (with_reducible refine wpList_insert _ rfl (.tmp 13) (.const (.int .i64 1)) (.tmp 14) 65 rfl 3 22 Try.underlying65 Try.underlying3 (w1.heap.size + 1) _ rfl ho0 1 rfl _ rfl rfl ?_)
  intro w2 ho1 hg2
  have hb2 : Below w.heap.size w w2 := hb1.trans (below_of_mut hg2 (by omega) hb1.size)
  have hx2 := hx1.grown hg2 (by simp; omega)
  have hy2 := hy1.grown hg2 (by simp; omega)
  have hz2 := hz1.grown hg2 (by simp)
  clear ho0 hg2 hb1 hx1 hy1 hz1
  go_wp2_with (with_reducible refine wpList_insert _ rfl (.tmp 13) (.const (.int .i64 2)) (.tmp 15) 65 rfl 3 22 Try.underlying65 Try.underlying3 (w1.heap.size + 1) _ rfl ho1 2 rfl _ rfl rfl ?_)
  intro w3 ho2 hg3
  have hb3 : Below w.heap.size w w3 := hb2.trans (below_of_mut hg3 (by omega) hb2.size)
  have hx3 := hx2.grown hg3 (by simp; omega)
  have hy3 := hy2.grown hg3 (by simp; omega)
  have hz3 := hz2.grown hg3 (by simp)
  clear ho1 hg3 hb2 hx2 hy2 hz2
  go_wp2_with (with_reducible refine wpList_insert _ rfl (.tmp 13) (.const (.int .i64 3)) (.tmp 16) 65 rfl 3 22 Try.underlying65 Try.underlying3 (w1.heap.size + 1) _ rfl ho2 3 rfl _ rfl rfl ?_)
  intro w4 ho3 hg4
  have hb4 : Below w.heap.size w w4 := hb3.trans (below_of_mut hg4 (by omega) hb3.size)
  have hx4 := hx3.grown hg4 (by simp; omega)
  have hy4 := hy3.grown hg4 (by simp; omega)
  have hz4 := hz3.grown hg4 (by simp)
  clear ho2 hg4 hb3 hx3 hy3 hz3
  go_wp2_with (with_reducible refine wpList_insert _ rfl (.tmp 13) (.const (.int .i64 4)) (.tmp 17) 65 rfl 3 22 Try.underlying65 Try.underlying3 (w1.heap.size + 1) _ rfl ho3 4 rfl _ rfl rfl ?_)
  intro w5 ho4 hg5
  have hb5 : Below w.heap.size w w5 := hb4.trans (below_of_mut hg5 (by omega) hb4.size)
  have hx5 := hx4.grown hg5 (by simp; omega)
  have hy5 := hy4.grown hg5 (by simp; omega)
  have hz5 := hz4.grown hg5 (by simp)
  clear ho3 hg5 hb4 hx4 hy4 hz4
  go_wp2_with (with_reducible refine wpList_insert _ rfl (.tmp 13) (.const (.int .i64 5)) (.tmp 18) 65 rfl 3 22 Try.underlying65 Try.underlying3 (w1.heap.size + 1) _ rfl ho4 5 rfl _ rfl rfl ?_)
  intro w6 ho5 hg6
  have hb6 : Below w.heap.size w w6 := hb5.trans (below_of_mut hg6 (by omega) hb5.size)
  have hx6 := hx5.grown hg6 (by simp; omega)
  have hy6 := hy5.grown hg6 (by simp; omega)
  have hz6 := hz5.grown hg6 (by simp)
  clear ho4 hg6 hb5 hx5 hy5 hz5
  go_wp2_with (with_reducible refine wpList_insert _ rfl (.tmp 13) (.const (.int .i64 6)) (.tmp 19) 65 rfl 3 22 Try.underlying65 Try.underlying3 (w1.heap.size + 1) _ rfl ho5 6 rfl _ rfl rfl ?_)
  intro w7 ho6 hg7
  have hb7 : Below w.heap.size w w7 := hb6.trans (below_of_mut hg7 (by omega) hb6.size)
  have hx7 := hx6.grown hg7 (by simp; omega)
  have hy7 := hy6.grown hg7 (by simp; omega)
  have hz7 := hz6.grown hg7 (by simp)
  clear ho5 hg7 hb6 hx6 hy6 hz6
  go_wp2_with (with_reducible refine wpList_insert _ rfl (.tmp 13) (.const (.int .i64 7)) (.tmp 20) 65 rfl 3 22 Try.underlying65 Try.underlying3 (w1.heap.size + 1) _ rfl ho6 7 rfl _ rfl rfl ?_)
  intro w8 ho7 hg8
  have hb8 : Below w.heap.size w w8 := hb7.trans (below_of_mut hg8 (by omega) hb7.size)
  have hx8 := hx7.grown hg8 (by simp; omega)
  have hy8 := hy7.grown hg8 (by simp; omega)
  have hz8 := hz7.grown hg8 (by simp)
  clear ho6 hg8 hb7 hx7 hy7 hz7
  have z0 := hz8.cell 0
  have x1 := hx8.cell 1
  have x2 := hx8.cell 2
  have y0 := hy8.cell 0
  simp at z0 x1 x2 y0
  have hzero := hzero w8
  by_cases h8 : op = 8
  · have hb88 : (op == 8) = true := by simp [h8]
    have HE : Hid (isT (s, op, k, n, x) (vk, vn, vt) = true) := Lib.hid (by rw [HT.out, hb88]; rfl)
    clear h8
    go_wp2
    go_ret
    exact ⟨by rw [HE.out]; rfl, hb8⟩
  by_cases h17 : 1 ≤ op ∧ op ≤ 7
  rotate_left
  · have hb88 : (op == 8) = false := by simp [h8]
    have hlk : (Instr.lookup 65 (.map (some (w1.heap.size + 1))) (.int .i64 op) true).run Try.prog w8 = .ok (.tuple #[.nilFunc, .bool false]) w8 := by
      have := run_look2 Try.underlying65 Try.underlying3 hzero ho7 op
      rw [this]
      have e : ∀ i : Int, 1 ≤ i → i ≤ 7 → (i == op) = false := fun i h1 h2 => by simp; omega
      simp [lookI, e]
    have HE : Hid (isT (s, op, k, n, x) (vk, vn, vt) = false) := Lib.hid (by
      rw [HT.out, hb88]
      have e : ∀ i : Int, 1 ≤ i → i ≤ 7 → (op == i) = false := fun i h1 h2 => by simp; omega
      simp [e])
    clear h8 h17
    go_wp2
    go_ret
    exact ⟨by rw [HE.out]; rfl, hb8⟩
  rcases (by omega : op = 1 ∨ op = 2 ∨ op = 3 ∨ op = 4 ∨ op = 5 ∨ op = 6 ∨ op = 7) with rfl | rfl | rfl | rfl | rfl | rfl | rfl
  · have hlk : (Instr.lookup 65 (.map (some (w1.heap.size + 1))) (.int .i64 1) true).run Try.prog w8 = .ok (.tuple #[Value.func (Fn.func 41) #[] #[Value.pointer (some ⟨w1.heap.size, 0, none⟩)], .bool true]) w8 :=
      run_look2 Try.underlying65 Try.underlying3 hzero ho7 1
    cases hkk : (vk == k)
    · have HE : Hid (isT (s, 1, k, n, x) (vk, vn, vt) = false) := Lib.hid (by rw [HT.out, hkk]; rfl)
      go_wp2
      go_ret
      exact ⟨by rw [HE.out]; rfl, hb8⟩
    · have HE : Hid (isT (s, 1, k, n, x) (vk, vn, vt) = (o == 0)) := Lib.hid (by rw [HT.out, hkk]; rfl)
      go_wp2_with fail
      refine (IsC1_calls w1.heap.size o w8 z0).mono ?_
      rintro e w' ⟨rfl, rfl⟩
      have hbe := hb8
      go_wp2
      go_ret
      exact ⟨by rw [HE.out]; rfl, hbe⟩
  · have hlk : (Instr.lookup 65 (.map (some (w1.heap.size + 1))) (.int .i64 2) true).run Try.prog w8 = .ok (.tuple #[Value.func (Fn.func 42) #[] #[Value.pointer (some ⟨w1.heap.size, 0, none⟩)], .bool true]) w8 :=
      run_look2 Try.underlying65 Try.underlying3 hzero ho7 2
    cases hkk : (vk == k)
    · have HE : Hid (isT (s, 2, k, n, x) (vk, vn, vt) = false) := Lib.hid (by rw [HT.out, hkk]; rfl)
      go_wp2
      go_ret
      exact ⟨by rw [HE.out]; rfl, hb8⟩
    · have HE : Hid (isT (s, 2, k, n, x) (vk, vn, vt) = (o != 0)) := Lib.hid (by rw [HT.out, hkk]; rfl)
      go_wp2_with fail
      refine (IsC2_calls w1.heap.size o w8 z0).mono ?_
      rintro e w' ⟨rfl, rfl⟩
      have hbe := hb8
      go_wp2
      go_ret
      exact ⟨by rw [HE.out]; rfl, hbe⟩
  · have hlk : (Instr.lookup 65 (.map (some (w1.heap.size + 1))) (.int .i64 3) true).run Try.prog w8 = .ok (.tuple #[Value.func (Fn.func 43) #[] #[Value.pointer (some ⟨w1.heap.size, 0, none⟩)], .bool true]) w8 :=
      run_look2 Try.underlying65 Try.underlying3 hzero ho7 3
    cases hkk : (vk == k)
    · have HE : Hid (isT (s, 3, k, n, x) (vk, vn, vt) = false) := Lib.hid (by rw [HT.out, hkk]; rfl)
      go_wp2
      go_ret
      exact ⟨by rw [HE.out]; rfl, hb8⟩
    · have HE : Hid (isT (s, 3, k, n, x) (vk, vn, vt) = (decide (o < 0))) := Lib.hid (by rw [HT.out, hkk]; rfl)
      go_wp2_with fail
      refine (IsC3_calls w1.heap.size o w8 z0).mono ?_
      rintro e w' ⟨rfl, rfl⟩
      have hbe := hb8
      go_wp2
      go_ret
      exact ⟨by rw [HE.out]; rfl, hbe⟩
  · have hlk : (Instr.lookup 65 (.map (some (w1.heap.size + 1))) (.int .i64 4) true).run Try.prog w8 = .ok (.tuple #[Value.func (Fn.func 44) #[] #[Value.pointer (some ⟨w1.heap.size, 0, none⟩)], .bool true]) w8 :=
      run_look2 Try.underlying65 Try.underlying3 hzero ho7 4
    cases hkk : (vk == k)
    · have HE : Hid (isT (s, 4, k, n, x) (vk, vn, vt) = false) := Lib.hid (by rw [HT.out, hkk]; rfl)
      go_wp2
      go_ret
      exact ⟨by rw [HE.out]; rfl, hb8⟩
    · have HE : Hid (isT (s, 4, k, n, x) (vk, vn, vt) = (decide (o ≤ 0))) := Lib.hid (by rw [HT.out, hkk]; rfl)
      go_wp2_with fail
      refine (IsC4_calls w1.heap.size o w8 z0).mono ?_
      rintro e w' ⟨rfl, rfl⟩
      have hbe := hb8
      go_wp2
      go_ret
      exact ⟨by rw [HE.out]; rfl, hbe⟩
  · have hlk : (Instr.lookup 65 (.map (some (w1.heap.size + 1))) (.int .i64 5) true).run Try.prog w8 = .ok (.tuple #[Value.func (Fn.func 45) #[] #[Value.pointer (some ⟨w1.heap.size, 0, none⟩)], .bool true]) w8 :=
      run_look2 Try.underlying65 Try.underlying3 hzero ho7 5
    cases hkk : (vk == k)
    · have HE : Hid (isT (s, 5, k, n, x) (vk, vn, vt) = false) := Lib.hid (by rw [HT.out, hkk]; rfl)
      go_wp2
      go_ret
      exact ⟨by rw [HE.out]; rfl, hb8⟩
    · have HE : Hid (isT (s, 5, k, n, x) (vk, vn, vt) = (decide (0 < o))) := Lib.hid (by rw [HT.out, hkk]; rfl)
      go_wp2_with fail
      refine (IsC5_calls w1.heap.size o w8 z0).mono ?_
      rintro e w' ⟨rfl, rfl⟩
      have hbe := hb8
      go_wp2
      go_ret
      exact ⟨by rw [HE.out]; rfl, hbe⟩
  · have hlk : (Instr.lookup 65 (.map (some (w1.heap.size + 1))) (.int .i64 6) true).run Try.prog w8 = .ok (.tuple #[Value.func (Fn.func 46) #[] #[Value.pointer (some ⟨w1.heap.size, 0, none⟩)], .bool true]) w8 :=
      run_look2 Try.underlying65 Try.underlying3 hzero ho7 6
    cases hkk : (vk == k)
    · have HE : Hid (isT (s, 6, k, n, x) (vk, vn, vt) = false) := Lib.hid (by rw [HT.out, hkk]; rfl)
      go_wp2
      go_ret
      exact ⟨by rw [HE.out]; rfl, hb8⟩
    · have HE : Hid (isT (s, 6, k, n, x) (vk, vn, vt) = (decide (0 ≤ o))) := Lib.hid (by rw [HT.out, hkk]; rfl)
      go_wp2_with fail
      refine (IsC6_calls w1.heap.size o w8 z0).mono ?_
      rintro e w' ⟨rfl, rfl⟩
      have hbe := hb8
      go_wp2
      go_ret
      exact ⟨by rw [HE.out]; rfl, hbe⟩
  · have hlk : (Instr.lookup 65 (.map (some (w1.heap.size + 1))) (.int .i64 7) true).run Try.prog w8 = .ok (.tuple #[Value.func (Fn.func 47) #[] #[Value.pointer (some ⟨w.heap.size + 1, 0, none⟩), Value.pointer (some ⟨w.heap.size, 0, none⟩)], .bool true]) w8 :=
      run_look2 Try.underlying65 Try.underlying3 hzero ho7 7
    cases hkk : (vk == k)
    · have HE : Hid (isT (s, 7, k, n, x) (vk, vn, vt) = false) := Lib.hid (by rw [HT.out, hkk]; rfl)
      go_wp2
      go_ret
      exact ⟨by rw [HE.out]; rfl, hb8⟩
    · have HE : Hid (isT (s, 7, k, n, x) (vk, vn, vt) = (begV (vk, vn, vt) (k, n, x))) := Lib.hid (by rw [HT.out, hkk]; rfl)
      go_wp2_with fail
      refine (IsC7_calls (w.heap.size + 1) w.heap.size (vk, vn, vt) (s, 7, k, n, x) w8 hy8 hx8).mono ?_
      rintro e w9 ⟨rfl, hb9⟩
      have hbe := hb8.trans (hb9.mono hb8.size)
      go_wp2
      go_ret
      exact ⟨by rw [HE.out]; rfl, hbe⟩
end Go.Proofs.Ytejdbdfofehdpaa

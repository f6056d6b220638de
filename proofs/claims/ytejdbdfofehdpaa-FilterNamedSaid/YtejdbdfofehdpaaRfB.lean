/-
  The walks of the document's Order and Begins of values. Conditions: none.
-/
import Derived.Test.YtejdbdfofehdpaaFiA
namespace Go.Proofs.Ytejdbdfofehdpaa
open Go Go.RowKit

/-- Does one value come first? -/
def lessV (a b : Vl) : Bool := if a.1 != b.1 then decide (a.1 < b.1) else if a.2.1 != b.2.1 then decide (a.2.1 < b.2.1) else ltS a.2.2 b.2.2
theorem ordV_less (a b : Vl) : ordV a b = if lessV a b then -1 else if lessV b a then 1 else 0 := by
  obtain ⟨ka, na, sa⟩ := a
  obtain ⟨kb, nb, sb⟩ := b
  unfold ordV lessV ordI ordS
  simp only
  by_cases h1 : ka = kb
  · subst h1
    simp
    by_cases h2 : na = nb
    · subst h2; simp
    · have h3 : ¬ nb = na := fun e => h2 e.symm
      by_cases h4 : na < nb
      · simp [h2, h4]
      · have h5 : nb < na := by omega
        simp [h2, h3, h4, h5]
  · have h3 : ¬ kb = ka := fun e => h1 e.symm
    by_cases h4 : ka < kb
    · simp [h1, h4]
    · have h5 : kb < ka := by omega
      simp [h1, h3, h4, h5]

set_option maxHeartbeats 400000 in
theorem less_calls (a b : Vl) (w : World) :
    Calls Try.prog 67 #[vv a.1 a.2.1 a.2.2, vv b.1 b.2.1 b.2.2] w fun e w' => e = .returned (.bool (lessV a b)) ∧ Below w.heap.size w w' := by
  obtain ⟨ka, na, sa⟩ := a
  obtain ⟨kb, nb, sb⟩ := b
  have hb2 : Below w.heap.size w ((w.alloc (.cells #[.int .i64 ka, .int .i64 na, .string sa] 28)).alloc (.cells #[.int .i64 kb, .int .i64 nb, .string sb] 28)) := ((Below.refl _ _).alloc (Nat.le_refl _) _).alloc (by simp) _
  cases h1 : (ka != kb)
  · cases h2 : (na != nb)
    · have HE : Hid (lessV (ka, na, sa) (kb, nb, sb) = Op.bytesLess sa.toList sb.toList) := Lib.hid (by simp only [lessV, h1, h2]; rfl)
      go_enter Try.func67, Try.ntmps67
      go_wp2
      go_ret
      exact ⟨by rw [HE.out]; rfl, hb2⟩
    · have HE : Hid (lessV (ka, na, sa) (kb, nb, sb) = decide (na < nb)) := Lib.hid (by simp only [lessV, h1, h2]; rfl)
      go_enter Try.func67, Try.ntmps67
      go_wp2
      go_ret
      exact ⟨by rw [HE.out]; rfl, hb2⟩
  · have HE : Hid (lessV (ka, na, sa) (kb, nb, sb) = decide (ka < kb)) := Lib.hid (by simp only [lessV, h1]; rfl)
    go_enter Try.func67, Try.ntmps67
    go_wp2
    go_ret
    exact ⟨by rw [HE.out]; rfl, hb2⟩

set_option maxHeartbeats 1000000 in
theorem RefOrder_calls (a b : Vl) (w : World) :
    Calls Try.prog 49 #[vv a.1 a.2.1 a.2.2, vv b.1 b.2.1 b.2.2] w fun e w' => e = .returned (.int .i64 (ordV a b)) ∧ Below w.heap.size w w' := by
  have HV := Lib.hid (ordV_less a b)
  have hc1 := fun W => less_calls a b W
  have hc2 := fun W => less_calls b a W
  obtain ⟨ka, na, sa⟩ := a
  obtain ⟨kb, nb, sb⟩ := b
  have hb2 : Below w.heap.size w ((w.alloc (.cells #[.int .i64 ka, .int .i64 na, .string sa] 28)).alloc (.cells #[.int .i64 kb, .int .i64 nb, .string sb] 28)) := ((Below.refl _ _).alloc (Nat.le_refl _) _).alloc (by simp) _
  have hx := (Blk.new w 28 #[.int .i64 ka, .int .i64 na, .string sa]).alloc (.cells #[.int .i64 kb, .int .i64 nb, .string sb] 28)
  have hy := Blk.new (w.alloc (.cells #[.int .i64 ka, .int .i64 na, .string sa] 28)) 28 #[.int .i64 kb, .int .i64 nb, .string sb]
  have C1 := Lib.hid hc1
  have C2 := Lib.hid hc2
  clear hc1 hc2
  go_enter Try.func49, Try.ntmps49
  go_wp2_with fail
  refine (C1.out _).mono ?_
  rintro e w1 ⟨rfl, hb1⟩
  have hbw1 := hb2.trans (hb1.mono hb2.size)
  have hx1 := hx.below hb1 hx.lt
  have hy1 := hy.below hb1 hy.lt
  have x0 := hx1.cell 0
  have x1 := hx1.cell 1
  have x2 := hx1.cell 2
  have y0 := hy1.cell 0
  have y1 := hy1.cell 1
  have y2 := hy1.cell 2
  simp at x0 x1 x2 y0 y1 y2
  cases h1 : lessV (ka, na, sa) (kb, nb, sb)
  · go_wp2_with fail
    refine (C2.out _).mono ?_
    rintro e w2 ⟨rfl, hb3⟩
    have hbw2 := hbw1.trans (hb3.mono hbw1.size)
    cases h2 : lessV (kb, nb, sb) (ka, na, sa)
    · have HE : Hid (ordV (ka, na, sa) (kb, nb, sb) = 0) := Lib.hid (by rw [HV.out, h1, h2]; rfl)
      go_wp2
      go_ret
      exact ⟨by rw [HE.out]; rfl, hbw2⟩
    · have HE : Hid (ordV (ka, na, sa) (kb, nb, sb) = 1) := Lib.hid (by rw [HV.out, h1, h2]; rfl)
      go_wp2
      go_ret
      exact ⟨by rw [HE.out]; rfl, hbw2⟩
  · have HE : Hid (ordV (ka, na, sa) (kb, nb, sb) = -1) := Lib.hid (by rw [HV.out, h1]; rfl)
    go_wp2
    go_ret
    exact ⟨by rw [HE.out]; rfl, hbw1⟩

set_option maxHeartbeats 2000000 in
set_option maxRecDepth 100000 in
theorem RefBegins_calls (a b : Vl) (w : World) :
    Calls Try.prog 50 #[vv a.1 a.2.1 a.2.2, vv b.1 b.2.1 b.2.2] w fun e w' => e = .returned (.bool (begV a b)) ∧ Below w.heap.size w w' := by
  obtain ⟨ka, na, sa⟩ := a
  obtain ⟨kb, nb, sb⟩ := b
  have hb2 : Below w.heap.size w ((w.alloc (.cells #[.int .i64 ka, .int .i64 na, .string sa] 28)).alloc (.cells #[.int .i64 kb, .int .i64 nb, .string sb] 28)) := ((Below.refl _ _).alloc (Nat.le_refl _) _).alloc (by simp) _
  have hx := (Blk.new w 28 #[.int .i64 ka, .int .i64 na, .string sa]).alloc (.cells #[.int .i64 kb, .int .i64 nb, .string sb] 28)
  have hy := Blk.new (w.alloc (.cells #[.int .i64 ka, .int .i64 na, .string sa] 28)) 28 #[.int .i64 kb, .int .i64 nb, .string sb]
  have HE : Hid (begV (ka, na, sa) (kb, nb, sb) = ((ka == 2) && ((kb == 2) && (decide (sb.size ≤ sa.size) && ((sa.extract 0 sb.size).toList == sb.toList))))) := Lib.hid (by simp [begV, preB, Bool.and_assoc])
  go_enter Try.func50, Try.ntmps50
  go_wp2_with fail
  generalize hW : ((w.alloc (.cells #[.int .i64 ka, .int .i64 na, .string sa] 28)).alloc (.cells #[.int .i64 kb, .int .i64 nb, .string sb] 28)) = W at *
  clear hW
  obtain ⟨C, hC⟩ : ∃ C : World → Prop, C = fun V => Below w.heap.size w V ∧ Blk V w.heap.size 28 #[.int .i64 ka, .int .i64 na, .string sa] ∧ Blk V (w.heap.size + 1) 28 #[.int .i64 kb, .int .i64 nb, .string sb] := ⟨_, rfl⟩
  have hg : ∀ W W', C W → Below W.heap.size W W' → C W' := by
    subst hC
    exact fun W W' h hb => ⟨h.1.trans (hb.mono h.1.size), h.2.1.below hb h.2.1.lt, h.2.2.below hb h.2.2.lt⟩
  have hc0 : C W := by rw [hC]; exact ⟨hb2, hx, by simpa using hy⟩
  generalize hp : (ka == 2) = p at *
  generalize hq : (kb == 2) = q at *
  obtain ⟨z, hz⟩ : ∃ z, z = decide (sb.size ≤ sa.size) := ⟨_, rfl⟩
  obtain ⟨r, hr⟩ : ∃ r, r = ((sa.extract 0 sb.size).toList == sb.toList) := ⟨_, rfl⟩
  refine wp_region_grow C [isV (.pointer (some ⟨w.heap.size, 0, none⟩)),
      isV (.int .i64 (ka)),
      isV (.bool p),
      isV (.bool p),
      isV (cond (p) (.pointer (some ⟨w.heap.size + 1, 0, none⟩)) undef),
      isV (cond (p) (.int .i64 (kb)) undef),
      isV (cond (p) (.bool q) undef),
      isV (.bool (p && q)),
      isV (.bool (p && q)),
      isV (cond (p && q) (.pointer (some ⟨w.heap.size, 2, none⟩)) undef),
      isV (cond (p && q) (.string sa) undef),
      isV (cond (p && q) (.int .i64 (sa.size)) undef),
      isV (cond (p && q) (.pointer (some ⟨w.heap.size + 1, 2, none⟩)) undef),
      isV (cond (p && q) (.string sb) undef),
      isV (cond (p && q) (.int .i64 (sb.size)) undef),
      isV (cond (p && q) (.bool z) undef),
      isV (.bool ((p && q) && z)),
      isV (.bool ((p && q) && z)),
      isV (cond ((p && q) && z) (.pointer (some ⟨w.heap.size, 2, none⟩)) undef),
      isV (cond ((p && q) && z) (.string sa) undef),
      isV (cond ((p && q) && z) (.pointer (some ⟨w.heap.size + 1, 2, none⟩)) undef),
      isV (cond ((p && q) && z) (.string sb) undef),
      isV (cond ((p && q) && z) (.int .i64 (sb.size)) undef),
      isV (cond ((p && q) && z) (.string (sa.extract 0 sb.size)) undef),
      isV (cond ((p && q) && z) (.pointer (some ⟨w.heap.size + 1, 2, none⟩)) undef),
      isV (cond ((p && q) && z) (.string sb) undef),
      isV (cond ((p && q) && z) (.bool r) undef),
      isV (.bool (((p && q) && z) && r)),
      isV (.bool (((p && q) && z) && r))]
    [([], []), ([0], [(5, 0)]), ([1], [(6, 1)]), ([2], [(7, 2)]), ([3], []), ([4, 3], [(9, 4)]), ([5, 3], [(10, 5)]), ([3, 6], [(8, 3), (11, 6)]), ([7], [(12, 7)]), ([8], []), ([9, 8], [(14, 9)]), ([10, 8], [(15, 10)]), ([8], []), ([12, 8], [(17, 12)]), ([13, 8], [(18, 13)]), ([11, 14, 8], [(16, 11), (19, 14)]), ([8, 15], [(13, 8), (20, 15)]), ([16], [(21, 16)]), ([17], []), ([18, 17], [(23, 18)]), ([17], []), ([20, 17], [(25, 20)]), ([21, 17], [(26, 21)]), ([19, 22, 17], [(24, 19), (27, 22)]), ([17], []), ([24, 17], [(29, 24)]), ([23, 25, 17], [(28, 23), (30, 25)]), ([17, 26], [(22, 17), (31, 26)]), ([27], [(32, 27)])] 33 rfl (by kernel_rfl) (by kernel_rfl) (by kernel_rfl) hg (by exact hg _ _ hc0 (Below.drew (Below.refl _ _))) ?st1 ?ow1 ?_
  case st1 =>
    simp only [List.forall_mem_cons]
    and_intros
    all_goals first | exact isV_st _ | simp
  case ow1 =>
    have HP := Lib.hid hp
    have HQ := Lib.hid hq
    have HZ := Lib.hid hz
    have HR := Lib.hid hr
    clear hp hq hz hr
    simp only [OwedQ]
    and_intros
    all_goals try trivial
    all_goals
      intro V w' hc hp
      rw [hC] at hc
      obtain ⟨-, hx, hy⟩ := hc
      have x0 := hx.cell 0
      have x2 := hx.cell 2
      have y0 := hy.cell 0
      have y2 := hy.cell 2
      simp at x0 x2 y0 y2
      try simp only [List.forall_mem_cons, tab_zero, tab_succ, isV] at hp
      cases p <;> cases q <;> cases z
    all_goals
      try simp [wantsG, rhoP, List.lookup, hp, tab_zero, tab_succ, ResG, execOp, bareOp, isV, undef, Below.refl, x0, x2, y0, y2, go_sem]
    all_goals first
      | (have := HP.out; simpa using this)
      | (have := HQ.out; simpa using this)
      | (have := HZ.out; simp at this; omega)
      | exact HR.out.symm
      | (have := HZ.out; simp at this; rw [if_pos this]; exact ⟨rfl, Below.refl _ _⟩)
  intro V W2 hc hp2
  have h28 := hp2 28 (by simp)
  simp only [tab_zero, tab_succ, isV] at h28
  rw [hC] at hc
  have hbw := hc.1
  clear hp2 hc hg hc0 hC
  simp only [putAll, Act.put, List.setIfInBounds_toArray, List.set_cons_succ, List.set_cons_zero, h28]
  go_wp2
  go_ret
  refine ⟨?_, hbw⟩
  rw [HE.out, ← hz, ← hr]
  simp [Bool.and_assoc]
end Go.Proofs.Ytejdbdfofehdpaa

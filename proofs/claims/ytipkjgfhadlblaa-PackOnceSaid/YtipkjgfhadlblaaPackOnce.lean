/-
  postilionlaw02.PackOnce: the walk: bytes are packed in one way alone. Conditions: none.
-/
import Derived.Test.YtipkjgfhadlblaaPackE
import Derived.Test.YtipkjgfhadlblaaOpen
import Derived.Test.YtipkjgfhadlblaaPackPlain
namespace Go.Proofs.Ytipkjgfhadlblaa
open Go Go.RowKit

set_option maxHeartbeats 4000000 in
theorem PackOnce_walk (v0 : Value) (w : World) (r0 : repBytes w v0) :
    Calls Try.prog 8 #[v0] w fun e w' => e = .returned (.bool true) ∧ Below w.heap.size w w' := by
  obtain ⟨A, c, l, rfl, hR, hc1, hc2⟩ := r0
  unfold maxLen at hc2
  by_cases hbig : 500 < l.length
  · have hbi : (500 : Int) < (l.length : Int) := by omega
    go_enter Try.func8, Try.ntmps8
    go_wp2_with fail
    refine (awake_calls w).mono ?_
    rintro e w1 ⟨rfl, hb1⟩
    go_wp2
    go_ret
    exact ⟨rfl, hb1⟩
  · have hbi : ¬ (500 : Int) < (l.length : Int) := by omega
    have hl5 : l.length ≤ 500 := by omega
    clear hbig
    generalize hm : l.length = m at *
    have HM := Lib.hid hm
    clear hm
    go_enter Try.func8, Try.ntmps8
    go_wp2_with fail
    refine (awake_calls w).mono ?_
    rintro e w1 ⟨rfl, hb1⟩
    have hR1 := hR.below hb1 (Nat.le_refl _)
    go_wp2_with fail
    refine (New_calls A m c l w1 w.heap.size hR1 hb1.size (by omega)).mono ?_
    rintro e w2 ⟨gx, rfl, hgx, hx2, hb2⟩
    have hbw2 := hb1.trans (hb2.mono hb1.size)
    have hR2 := hR.below hbw2 (Nat.le_refl _)
    go_wp2_with fail
    refine (RNumber_calls gx l false w2 hx2).mono ?_
    rintro e w3 ⟨rfl, hx3, hm3⟩
    have hb3 := below_of_mut hm3 (B := w.heap.size) (by have := hb1.size; omega) hbw2.size
    have hbw3 := hbw2.trans hb3
    have hR3 := hR.below hbw3 (Nat.le_refl _)
    go_wp2_with fail
    refine (New_calls A m c l w3 w.heap.size hR3 hbw3.size (by omega)).mono ?_
    rintro e w4 ⟨gy, rfl, hgy, hy4, hb4⟩
    have hbw4 := hbw3.trans (hb4.mono hbw3.size)
    have hR4 := hR.below hbw4 (Nat.le_refl _)
    have hx4 := hx3.below hb4 hx3.lt
    have hxl := hx3.lt
    go_wp2_with fail
    refine (RBytes_calls gy l false 500 w4 hy4 (by have := HM.out; omega) (by omega) (by omega)).mono ?_
    rintro e w5 ⟨v5, rfl, ho5, hy5, hm5⟩
    have hb5 := below_of_mut hm5 (B := w.heap.size) (by have := hbw3.size; omega) hbw4.size
    have hbw5 := hbw4.trans hb5
    have hR5 := hR.below hbw5 (Nat.le_refl _)
    have hx5 := hx4.mut hm5 (by omega)
    go_wp2_with fail
    refine (New_calls A m c l w5 w.heap.size hR5 hbw5.size (by omega)).mono ?_
    rintro e w6 ⟨gz, rfl, hgz, hz6, hb6⟩
    have hbw6 := hbw5.trans (hb6.mono hbw5.size)
    have hR6 := hR.below hbw6 (Nat.le_refl _)
    have hx6 := hx5.below hb6 hx5.lt
    have hy6 := hy5.below hb6 hy5.lt
    have hyl := hy5.lt
    have hs6 := sl_st _ _ _ _ (sl_own ho5) hb6
    go_wp2_with fail
    refine (RValue_calls gz l false w6 hz6 (by have := HM.out; omega)).mono ?_
    rintro e w7 ⟨rfl, hz7, hm7⟩
    have hb7 := below_of_mut hm7 (B := w.heap.size) (by have := hbw5.size; omega) hbw6.size
    have hbw7 := hbw6.trans hb7
    have hR7 := hR.below hbw7 (Nat.le_refl _)
    have hx7 := hx6.mut hm7 (by omega)
    have hy7 := hy6.mut hm7 (by omega)
    have hs7 : sl (rdB 500 l false).1 v5 w7 := sl_st _ _ _ _ (sl_own ho5) ((hb6.trans (below_of_mut hm7 (by omega) hb6.size)))
    have f1 := @rdN_back l false
    have f2 := @rdB_back 500 l false
    have f3 := @rdV_back l false
    have f1b := rdN_lt l false
    generalize rdN l false = a at *
    obtain ⟨n, r1, x1⟩ := a
    generalize rdB 500 l false = a at *
    obtain ⟨s, r2, x2⟩ := a
    generalize rdV l false = a at *
    obtain ⟨⟨k, nn, ss⟩, r3, x3⟩ := a
    simp only at *
    obtain ⟨D1, hD1⟩ : ∃ D, D = (!x1 && r1.isEmpty) := ⟨_, rfl⟩
    obtain ⟨D2, hD2⟩ : ∃ D, D = (!x2 && r2.isEmpty) := ⟨_, rfl⟩
    obtain ⟨D3, hD3⟩ : ∃ D, D = (!x3 && r3.isEmpty) := ⟨_, rfl⟩
    have g1 : Hid (D1 = true → packN n = l) := by
      refine Lib.hid fun h => ?_
      rw [hD1] at h
      simp at h
      have := (f1 h.1).1
      simpa [h.2] using this.symm
    have g2 : Hid (D2 = true → packN s.length ++ s = l) := by
      refine Lib.hid fun h => ?_
      rw [hD2] at h
      simp at h
      have := (f2 h.1).1
      simpa [h.2] using this.symm
    have g3 : Hid (D3 = true → packV k nn ⟨ss.toArray⟩ = l ∧ okV k nn ⟨ss.toArray⟩ = true ∧ -9223372036854775808 ≤ nn ∧ nn ≤ 9223372036854775807) := by
      refine Lib.hid fun h => ?_
      rw [hD3] at h
      simp at h
      have h1 := f3 h.1
      refine ⟨?_, h1.2.1, h1.2.2.2⟩
      have := h1.1
      simpa [h.2] using this.symm
    have hx8 := Blk.new w7 28 #[.int .i64 k, .int .i64 nn, .string ⟨ss.toArray⟩]
    have hal : Below w7.heap.size w7 (w7.alloc (.cells #[.int .i64 k, .int .i64 nn, .string ⟨ss.toArray⟩] 28)) := (Below.refl _ _).alloc (Nat.le_refl _) _
    obtain ⟨C, hC⟩ : ∃ C : World → Prop, C = fun W => Below w.heap.size w W ∧ sl l (.slice A m c) W ∧ sl s v5 W ∧ Rd W gx r1 x1 ∧ Rd W gy r2 x2 ∧ Rd W gz r3 x3 ∧ Blk W w7.heap.size 28 #[.int .i64 k, .int .i64 nn, .string ⟨ss.toArray⟩] := ⟨_, rfl⟩
    have hg : ∀ W W', C W → Below W.heap.size W W' → C W' := by
      subst hC
      rintro W W' ⟨h1, h2, h3, h4, h5, h6, h7⟩ hb
      exact ⟨h1.trans (hb.mono h1.size), sl_st _ _ _ _ h2 hb, sl_st _ _ _ _ h3 hb, h4.below hb h4.lt, h5.below hb h5.lt, h6.below hb h6.lt, h7.below hb h7.lt⟩
    have hc0 : C (w7.alloc (.cells #[.int .i64 k, .int .i64 nn, .string ⟨ss.toArray⟩] 28)) := by
      rw [hC]
      refine ⟨hbw7.trans (hal.mono hbw7.size), sl_st _ _ _ _ ⟨A, c, by rw [HM.out], by rw [HM.out]; exact (hR7.more hbw7.size)⟩ hal, sl_st _ _ _ _ hs7 hal, hx7.below hal hx7.lt, hy7.below hal hy7.lt, hz7.below hal hz7.lt, hx8⟩
    have hl5' : l.length ≤ 500 := by rw [HM.out]; exact hl5
    have E1 := Lib.hid hD1
    have E2 := Lib.hid hD2
    have E3 := Lib.hid hD3
    clear f1 f2 f3 hs7 hx8 hal hR hR1 hR2 hR3 hR4 hR5 hR6 hR7 hx2 hx3 hx4 hx5 hx6 hx7 hy4 hy5 hy6 hy7 hz6 hz7 hs6 ho5 hm3 hm5 hm7 hb2 hb3 hb4 hb5 hb6 hb7 hbw2 hbw3 hbw4 hbw5 hbw6 hbw7 hD1 hD2 hD3 hgx hgy hgz hxl hyl
    go_wp2_with fail
    refine wp_region_grow C (bif D1 then [isV (.pointer (some ⟨gx, 0, none⟩)), isV (.bool true), isV (.bool false), isV (.bool false), isV (.int .u64 (n : Int)), sl l, isV (.string ⟨l.toArray⟩), isV (.slice A m c), isV (.string ⟨l.toArray⟩), isV (.bool true), isV (.bool true), isV (.bool true)] else [isV (.pointer (some ⟨gx, 0, none⟩)), isV (.bool false), isV (.bool true), isV (.bool true), anyV, anyV, anyV, anyV, anyV, anyV, isV (.bool true), isV (.bool true)])
      [([], []), ([0], [(31, 0)]), ([1], [(32, 1)]), ([2], [(33, 2)]), ([3], []), ([4, 3], [(35, 4)]), ([5, 3], [(36, 5)]), ([3], []), ([7, 3], [(38, 7)]), ([6, 8, 3], [(37, 6), (39, 8)]), ([3, 9], [(34, 3), (40, 9)]), ([10], [(41, 10)])] 76 rfl (by kernel_rfl) (by kernel_rfl) (by kernel_rfl) hg (by exact hg _ _ hc0 (Below.drew (Below.refl _ _))) ?st12 ?ow12 ?_
    case st12 =>
      cases D1
      all_goals
        simp only [cond_true, cond_false, List.forall_mem_cons]
        and_intros
      all_goals first | exact isV_st _ | exact sl_st _ | exact anyV_st | simp
    case ow12 =>
      cases hD1 : D1
      all_goals
        simp only [cond_true, cond_false, OwedQ]
        and_intros
      all_goals try trivial
      all_goals
        intro V w' hc hp
        try simp only [List.forall_mem_cons, tab_zero, tab_succ, isV] at hp
        try simp [wantsG, rhoP, List.lookup, hp, tab_zero, tab_succ, ResG, execOp, bareOp, isV, anyV, undef, Below.refl, go_sem]
      · rw [hC] at hc
        exact (Done_calls gx _ _ w' hc.2.2.2.1).mono fun e w'' ⟨he, hw⟩ => ⟨_, he, by rw [← E1.out, hD1], hw ▸ Below.refl _ _⟩
      · rw [hC] at hc
        exact (Done_calls gx _ _ w' hc.2.2.2.1).mono fun e w'' ⟨he, hw⟩ => ⟨_, he, by rw [← E1.out, hD1], hw ▸ Below.refl _ _⟩
      · have hl := g1.out hD1
        refine (Number_calls none 0 0 [] n f1b w' 0 (Reads.nil _ _ _ _) (by omega) (by omega)).mono ?_
        rintro e w'' ⟨v, rfl, ho, hb⟩
        rw [List.nil_append, hl] at ho
        exact ⟨v, rfl, sl_own ho, hb⟩
      · rw [str hp.1]; simp [Result.andThen, Below.refl]
      · rw [hC] at hc
        rw [str hc.2.1]; simp [Result.andThen, Below.refl]
    intro V12 W12 hc12 hp12
    have hr12 : V12 11 = .bool true := by
      have := hp12 11 (by simp)
      cases D1 <;> simpa [tab_zero, tab_succ, isV] using this
    clear hp12
    simp only [putAll, Act.put, List.setIfInBounds_toArray, List.set_cons_succ, List.set_cons_zero, hr12]
    go_wp2_with fail
    refine wp_region_grow C (bif D2 then [isV (.pointer (some ⟨gy, 0, none⟩)), isV (.bool true), isV (.bool false), isV (.bool false), isV v5, sl l, isV (.string ⟨l.toArray⟩), isV (.slice A m c), isV (.string ⟨l.toArray⟩), isV (.bool true), isV (.bool true), isV (.bool true)] else [isV (.pointer (some ⟨gy, 0, none⟩)), isV (.bool false), isV (.bool true), isV (.bool true), anyV, anyV, anyV, anyV, anyV, anyV, isV (.bool true), isV (.bool true)])
      [([], []), ([0], [(42, 0)]), ([1], [(43, 1)]), ([2], [(44, 2)]), ([3], []), ([4, 3], [(46, 4)]), ([5, 3], [(47, 5)]), ([3], []), ([7, 3], [(49, 7)]), ([6, 8, 3], [(48, 6), (50, 8)]), ([3, 9], [(45, 3), (51, 9)]), ([10], [(52, 10)])] 76 rfl (by kernel_rfl) (by kernel_rfl) (by kernel_rfl) hg (by exact hg _ _ hc12 (Below.drew (Below.refl _ _))) ?st13 ?ow13 ?_
    case st13 =>
      cases D2
      all_goals
        simp only [cond_true, cond_false, List.forall_mem_cons]
        and_intros
      all_goals first | exact isV_st _ | exact sl_st _ | exact anyV_st | simp
    case ow13 =>
      cases hD2 : D2
      all_goals
        simp only [cond_true, cond_false, OwedQ]
        and_intros
      all_goals try trivial
      all_goals
        intro V w' hc hp
        try simp only [List.forall_mem_cons, tab_zero, tab_succ, isV] at hp
        try simp [wantsG, rhoP, List.lookup, hp, tab_zero, tab_succ, ResG, execOp, bareOp, isV, anyV, undef, Below.refl, go_sem]
      · rw [hC] at hc
        exact (Done_calls gy _ _ w' hc.2.2.2.2.1).mono fun e w'' ⟨he, hw⟩ => ⟨_, he, by rw [← E2.out, hD2], hw ▸ Below.refl _ _⟩
      · rw [hC] at hc
        exact (Done_calls gy _ _ w' hc.2.2.2.2.1).mono fun e w'' ⟨he, hw⟩ => ⟨_, he, by rw [← E2.out, hD2], hw ▸ Below.refl _ _⟩
      · have hl := g2.out hD2
        rw [hC] at hc
        obtain ⟨A5, c5, hv5, hr5⟩ := hc.2.2.1
        rw [hv5]
        have hsl : s.length ≤ 500 := by have := congrArg List.length hl; simp at this; omega
        refine (Bytes_calls none A5 0 0 s.length c5 [] s w' w'.heap.size (Reads.nil _ _ _ _) hr5 (Nat.le_refl _) (by omega) (by omega)).mono ?_
        rintro e w'' ⟨v, rfl, ho, hb⟩
        rw [List.nil_append, hl] at ho
        exact ⟨v, rfl, sl_own ho, hb⟩
      · rw [str hp.1]; simp [Result.andThen, Below.refl]
      · rw [hC] at hc
        rw [str hc.2.1]; simp [Result.andThen, Below.refl]
    intro V13 W13 hc13 hp13
    have hr13 : V13 11 = .bool true := by
      have := hp13 11 (by simp)
      cases D2 <;> simpa [tab_zero, tab_succ, isV] using this
    clear hp13
    simp only [putAll, Act.put, List.setIfInBounds_toArray, List.set_cons_succ, List.set_cons_zero, hr13]
    go_wp2_with fail
    refine wp_region_grow C (bif D3 then [isV (.pointer (some ⟨gz, 0, none⟩)), isV (.bool true), isV (.bool false), isV (.bool false), isV (vd (k, nn, ss)), sl l, isV (.string ⟨l.toArray⟩), isV (.slice A m c), isV (.string ⟨l.toArray⟩), isV (.bool true), isV (.bool true), isV (vd (k, nn, ss)), isV (.int .i64 0), isV (.bool true), isV (.bool true), isV (.bool true), isV (.bool true)] else [isV (.pointer (some ⟨gz, 0, none⟩)), isV (.bool false), isV (.bool true), isV (.bool true), anyV, anyV, anyV, anyV, anyV, anyV, isV undef, anyV, anyV, anyV, anyV, isV (.bool true), isV (.bool true)])
      [([], []), ([0], [(53, 0)]), ([1], [(54, 1)]), ([2], [(55, 2)]), ([3], []), ([4, 3], [(57, 4)]), ([5, 3], [(58, 5)]), ([3], []), ([7, 3], [(60, 7)]), ([6, 8, 3], [(59, 6), (61, 8)]), ([9, 3], [(62, 9)]), ([10], []), ([11, 10], [(64, 11)]), ([12, 10], [(65, 12)]), ([10, 13, 3], [(63, 10), (66, 13)]), ([3, 14], [(56, 3), (67, 14)]), ([15], [(68, 15)])] 76 rfl (by kernel_rfl) (by kernel_rfl) (by kernel_rfl) hg (by exact hg _ _ hc13 (Below.drew (Below.refl _ _))) ?st14 ?ow14 ?_
    case st14 =>
      cases D3
      all_goals
        simp only [cond_true, cond_false, List.forall_mem_cons]
        and_intros
      all_goals first | exact isV_st _ | exact sl_st _ | exact anyV_st | simp
    case ow14 =>
      cases hD3 : D3
      all_goals
        simp only [cond_true, cond_false, OwedQ]
        and_intros
      all_goals try trivial
      all_goals
        intro V w' hc hp
        have hbk : Blk w' w7.heap.size 28 #[.int .i64 k, .int .i64 nn, .string ⟨ss.toArray⟩] := by rw [hC] at hc; exact hc.2.2.2.2.2.2
        have c0 := hbk.cell 0
        have c1 := hbk.cell 1
        have c2 := hbk.cell 2
        simp at c0 c1 c2
        try simp only [List.forall_mem_cons, tab_zero, tab_succ, isV] at hp
        try simp [wantsG, rhoP, List.lookup, hp, tab_zero, tab_succ, ResG, execOp, bareOp, isV, anyV, undef, Below.refl, c0, c1, c2, go_sem]
      · rw [hC] at hc
        exact (Done_calls gz _ _ w' hc.2.2.2.2.2.1).mono fun e w'' ⟨he, hw⟩ => ⟨_, he, by rw [← E3.out, hD3], hw ▸ Below.refl _ _⟩
      · rw [hC] at hc
        exact (Done_calls gz _ _ w' hc.2.2.2.2.2.1).mono fun e w'' ⟨he, hw⟩ => ⟨_, he, by rw [← E3.out, hD3], hw ▸ Below.refl _ _⟩
      · have hl := g3.out hD3
        have hss := (okV_kind hl.2.1).2
        refine (Value_calls none 0 0 [] k nn ⟨ss.toArray⟩ w' 0 (Reads.nil _ _ _ _) (by omega) (by omega) (by omega) hl.2.2.1 hl.2.2.2).mono ?_
        rintro e w'' ⟨v, rfl, ho, hb⟩
        rw [List.nil_append, hl.1] at ho
        exact ⟨v, rfl, sl_own ho, hb⟩
      · rw [str hp.1]; simp [Result.andThen, Below.refl]
      · rw [hC] at hc
        rw [str hc.2.1]; simp [Result.andThen, Below.refl]
      · have hl := g3.out hD3
        refine (Check_calls k nn ⟨ss.toArray⟩ w').mono ?_
        rintro e w'' ⟨rfl, hb⟩
        exact ⟨_, rfl, by rw [chk, if_pos hl.2.1], hb⟩
    intro V14 W14 hc14 hp14
    have hr14 : V14 16 = .bool true := by
      have := hp14 16 (by simp)
      cases D3 <;> simpa [tab_zero, tab_succ, isV] using this
    clear hp14
    simp only [putAll, Act.put, List.setIfInBounds_toArray, List.set_cons_succ, List.set_cons_zero, hr14]
    go_wp2
    go_ret
    rw [hC] at hc14
    exact ⟨rfl, hc14.1⟩
end Go.Proofs.Ytipkjgfhadlblaa

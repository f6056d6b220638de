/-
  postilionlaw05.FilterTells: the walk. Conditions: none.
-/
import Derived.Test.YtejdbdfofehdpaaFilter2
namespace Go.Proofs.Ytejdbdfofehdpaa
open Go Go.RowKit

set_option maxHeartbeats 2000000 in
set_option maxRecDepth 100000 in
theorem FilterTells_walk (v0 v1 v2 v3 : Value) (w : World) (r0 : repFilter w v0) (r1 : repEvent w v1) (r2 : repTest w v2) (r3 : repVal w v3) :
    Calls Try.prog 4 #[v0, v1, v2, v3] w fun e w' => e = .returned (.bool true) ∧ Below w.heap.size w w' := by
  obtain ⟨l, hf, hi⟩ := flt_rep r0
  obtain ⟨ev, he, -⟩ := evt_rep r1
  obtain ⟨⟨s, op, tk, tn, x⟩, rfl, -⟩ := r2
  obtain ⟨vk, vn, vt, rfl, -⟩ := r3
  have HI := Lib.hid hi
  clear r0 r1 hi
  have hx := (Blk.new w 30 #[.string s, .int .i64 op, .int .i64 tk, .int .i64 tn, .string x]).alloc (.cells #[.int .i64 vk, .int .i64 vn, .string vt] 28)
  have hy := Blk.new (w.alloc (.cells #[.string s, .int .i64 op, .int .i64 tk, .int .i64 tn, .string x] 30)) 28 #[.int .i64 vk, .int .i64 vn, .string vt]
  have hbw : Below w.heap.size w ((w.alloc (.cells #[.string s, .int .i64 op, .int .i64 tk, .int .i64 tn, .string x] 30)).alloc (.cells #[.int .i64 vk, .int .i64 vn, .string vt] 28)) := ((Below.refl _ _).alloc (Nat.le_refl _) _).alloc (by simp) _
  replace hf := flt_st _ _ _ _ hf hbw
  replace he := evt_st _ _ _ _ he hbw
  go_enter Try.func4, Try.ntmps4
  go_wp2_with fail
  have hgs : (w.alloc (.cells #[.string s, .int .i64 op, .int .i64 tk, .int .i64 tn, .string x] 30)).heap.size = w.heap.size + 1 := by simp
  rw [hgs] at hy
  clear hgs
  generalize (w.alloc (.cells #[.string s, .int .i64 op, .int .i64 tk, .int .i64 tn, .string x] 30)).alloc (.cells #[.int .i64 vk, .int .i64 vn, .string vt] 28) = w1 at *
  refine (awake_calls _).mono ?_
  rintro e w2 ⟨rfl, hb⟩
  replace hf := flt_st _ _ _ _ hf hb
  replace he := evt_st _ _ _ _ he hb
  replace hx := hx.below hb hx.lt
  replace hy := hy.below hb hy.lt
  replace hbw := hbw.trans (hb.mono hbw.size)
  clear hb
  go_wp2_with fail
  refine (FFew_flt hf).mono ?_
  rintro e w' ⟨rfl, rfl⟩
  cases hq : fewF l
  · go_wp2
    go_ret
    exact ⟨rfl, hbw⟩
  obtain ⟨hlen, hsz⟩ := fewF_fit hq
  have HSZ := Lib.hid hsz
  clear hsz hq
  have q0 := hx.cell 0
  have q1 := hx.cell 1
  have q2 := hx.cell 2
  have q3 := hx.cell 3
  have q4 := hx.cell 4
  simp at q0 q1 q2 q3 q4
  go_wp2_with fail
  have ho : flt [((s, op, tk, tn, x) : Tst)] (.slice (some ⟨w2.heap.size, 0, none⟩) 1 1) (w2.alloc (.cells #[.string s, .int .i64 op, .int .i64 tk, .int .i64 tn, .string x] 30)) := ⟨_, _, rfl, (Reads.new w2 (tstc ((s, op, tk, tn, x) : Tst)) 30 5 1 rfl).more (by simp)⟩
  clear q0 q1 q2 q3 q4
  have hb : Below w2.heap.size w2 (w2.alloc (.cells #[.string s, .int .i64 op, .int .i64 tk, .int .i64 tn, .string x] 30)) := (Below.refl _ _).alloc (Nat.le_refl _) _
  replace hf := flt_st _ _ _ _ hf hb
  replace he := evt_st _ _ _ _ he hb
  replace hx := hx.below hb hx.lt
  replace hy := hy.below hb hy.lt
  replace hbw := hbw.trans (hb.mono hbw.size)
  clear hb
  generalize w2.alloc (.cells #[.string s, .int .i64 op, .int .i64 tk, .int .i64 tn, .string x] 30) = w3 at *
  generalize w2.heap.size = g3 at *
  refine (FFew_flt ho).mono ?_
  rintro e w' ⟨rfl, rfl⟩
  clear ho
  cases hq : fewF [((s, op, tk, tn, x) : Tst)]
  · go_wp2
    go_ret
    exact ⟨rfl, hbw⟩
  have hs9 : s.size ≤ 1000000000 := (fewF_fit hq).2 ((s, op, tk, tn, x) : Tst) (by simp)
  clear hq
  go_wp2_with fail
  refine (Few_evt he).mono ?_
  rintro e w' ⟨rfl, rfl⟩
  cases hq : fewE ev
  · go_wp2
    go_ret
    exact ⟨rfl, hbw⟩
  have hle := (few_fit hq).1
  clear hq
  have p0 := hy.cell 0
  have p1 := hy.cell 1
  have p2 := hy.cell 2
  simp at p0 p1 p2
  by_cases hv : vt.size ≤ 100
  rotate_left
  · have hv' : (100 : Int) < (vt.size : Int) := by omega
    go_wp2
    go_ret
    exact ⟨rfl, hbw⟩
  have hv' : ¬ (100 : Int) < (vt.size : Int) := by omega
  go_wp2_with fail
  clear p0 p1 p2
  refine (FEncode_flt hf HI.out).mono ?_
  rintro e w4 ⟨v10, rfl, ho, hb⟩
  have hs := sl_own ho
  clear ho
  replace hf := flt_st _ _ _ _ hf hb
  replace he := evt_st _ _ _ _ he hb
  replace hx := hx.below hb hx.lt
  replace hy := hy.below hb hy.lt
  replace hbw := hbw.trans (hb.mono hbw.size)
  clear hb
  go_wp2_with fail
  refine (RefFEncode_flt hf hlen HSZ.out HI.out).mono ?_
  rintro e w5 ⟨v12, rfl, ho, hb⟩
  have hr := sl_own ho
  clear ho
  replace hs := sl_st _ _ _ _ hs hb
  replace hf := flt_st _ _ _ _ hf hb
  replace he := evt_st _ _ _ _ he hb
  replace hx := hx.below hb hx.lt
  replace hy := hy.below hb hy.lt
  replace hbw := hbw.trans (hb.mono hbw.size)
  clear hb
  go_upto_region 6 with (fail)
  obtain ⟨C, hC⟩ : ∃ C : World → Prop, C = fun W => Below w.heap.size w W ∧ flt l v0 W ∧ evt ev v1 W ∧ Blk W w.heap.size 30 #[.string s, .int .i64 op, .int .i64 tk, .int .i64 tn, .string x] ∧ Blk W (w.heap.size + 1) 28 #[.int .i64 vk, .int .i64 vn, .string vt] ∧ sl (encFR l) v10 W ∧ sl (encFR l) v12 W := ⟨_, rfl⟩
  have hg : ∀ W W', C W → Below W.heap.size W W' → C W' := by
    subst hC
    rintro W W' ⟨h1, h2, h3, h4, h5, h6, h7⟩ hb
    exact ⟨h1.trans (hb.mono h1.size), flt_st _ _ _ _ h2 hb, evt_st _ _ _ _ h3 hb, h4.below hb h4.lt, h5.below hb h5.lt, sl_st _ _ _ _ h6 hb, sl_st _ _ _ _ h7 hb⟩
  have hc0 : C w5 := by rw [hC]; exact ⟨hbw, hf, he, hx, hy, hs, hr⟩
  clear hbw hf he hx hy hs hr
  refine wp_region_grow C [isV (v0),
      isV (.int .i64 (chkF l)),
      isV (v0),
      isV (.int .i64 (chkF l)),
      isV (.bool true),
      isV (.bool true),
      isV (tstv (s, op, tk, tn, x)),
      isV (.int .i64 (chkT (s, op, tk, tn, x))),
      isV (tstv (s, op, tk, tn, x)),
      isV (.int .i64 (chkT (s, op, tk, tn, x))),
      isV (.bool true),
      isV (.bool true),
      isV (.bool true)]
    [([], []), ([0], [(47, 0)]), ([], []), ([2], [(49, 2)]), ([1, 3], [(48, 1), (50, 3)]), ([4], [(51, 4)]), ([5], []), ([6, 5], [(53, 6)]), ([5], []), ([8, 5], [(55, 8)]), ([7, 9, 5], [(54, 7), (56, 9)]), ([5, 10], [(52, 5), (57, 10)]), ([11], [(58, 11)])] 102 rfl (by kernel_rfl) (by kernel_rfl) (by kernel_rfl) hg (by exact hg _ _ hc0 (Below.drew (Below.refl _ _))) ?st6 ?ow6 ?_
  case st6 =>
    simp only [List.forall_mem_cons]
    and_intros
    all_goals first | exact isV_st _ | simp
  case ow6 =>
    simp only [OwedQ]
    and_intros
    all_goals try trivial
    all_goals
      intro V w' hc hp
      rw [hC] at hc
      obtain ⟨-, hf, he, hx, hy, hs, hr⟩ := hc
      have q0 := hx.cell 0
      have q1 := hx.cell 1
      have q2 := hx.cell 2
      have q3 := hx.cell 3
      have q4 := hx.cell 4
      simp at q0 q1 q2 q3 q4
      try simp only [List.forall_mem_cons, tab_zero, tab_succ, isV] at hp
      try simp [wantsG, rhoP, List.lookup, hp, tab_zero, tab_succ, ResG, execOp, bareOp, isV, Below.refl, q0, q1, q2, q3, q4, go_sem]
    · refine (FCheck_flt hf).mono ?_
      rintro e w2 ⟨rfl, hb⟩
      exact ⟨_, rfl, rfl, hb⟩
    · refine (RefFCheck_flt hf hlen HSZ.out).mono ?_
      rintro e w2 ⟨rfl, hb⟩
      exact ⟨_, rfl, rfl, hb⟩
    · refine (One_calls _ _).mono ?_
      rintro e w2 ⟨rfl, hb⟩
      exact ⟨_, rfl, rfl, hb⟩
    · refine (RefOne_calls _ _ hs9).mono ?_
      rintro e w2 ⟨rfl, hb⟩
      exact ⟨_, rfl, rfl, hb⟩
  intro V W hc hp
  have hlast := hp 12 (by simp)
  simp only [tab_zero, tab_succ, isV] at hlast
  clear hp
  simp only [putAll, Act.put, List.setIfInBounds_toArray, List.set_cons_succ, List.set_cons_zero, hlast]
  go_upto_region 7 with (fail)
  refine wp_region_grow C [isV (.bool true),
      isV (.bool true),
      isV (.bool true),
      isV (.bool true),
      isV (.bool true),
      isV (v10),
      isV (.string ⟨(encFR l).toArray⟩),
      isV (v12),
      isV (.string ⟨(encFR l).toArray⟩),
      isV (.bool true),
      isV (.bool true),
      isV (.bool true),
      isV (.int .i64 (chkF l)),
      isV (.int .i64 (chkF l)),
      isV (.bool true),
      isV (.bool true),
      isV (.bool true),
      isV (v0),
      isV (v1),
      isV (.bool (matchesF l ev)),
      isV (v0),
      isV (v1),
      isV (.bool (matchesF l ev)),
      isV (.bool true),
      isV (.bool true),
      isV (.bool true),
      isV (tstv (s, op, tk, tn, x)),
      isV (vv vk vn vt),
      isV (.bool (isT (s, op, tk, tn, x) (vk, vn, vt))),
      isV (tstv (s, op, tk, tn, x)),
      isV (vv vk vn vt),
      isV (.bool (isT (s, op, tk, tn, x) (vk, vn, vt))),
      isV (.bool true),
      isV (.bool true),
      isV (.bool true),
      isV (tstv (s, op, tk, tn, x)),
      isV (v1),
      isV (.bool (holdsT (s, op, tk, tn, x) ev)),
      isV (tstv (s, op, tk, tn, x)),
      isV (v1),
      isV (.bool (holdsT (s, op, tk, tn, x) ev)),
      isV (.bool true),
      isV (.bool true),
      isV (.bool true)]
    [([], []), ([0], [(59, 0)]), ([1], []), ([1, 2], [(60, 1), (61, 2)]), ([3], [(62, 3)]), ([4], []), ([5, 4], [(64, 5)]), ([4], []), ([7, 4], [(66, 7)]), ([6, 8, 4], [(65, 6), (67, 8)]), ([4, 9], [(63, 4), (68, 9)]), ([10], [(69, 10)]), ([11], []), ([11], []), ([12, 13, 11], [(71, 12), (72, 13)]), ([11, 14], [(70, 11), (73, 14)]), ([15], [(74, 15)]), ([16], []), ([16], []), ([17, 18, 16], [(76, 17), (77, 18)]), ([16], []), ([16], []), ([20, 21, 16], [(79, 20), (80, 21)]), ([19, 22, 16], [(78, 19), (81, 22)]), ([16, 23], [(75, 16), (82, 23)]), ([24], [(83, 24)]), ([25], []), ([25], []), ([26, 27, 25], [(85, 26), (86, 27)]), ([25], []), ([25], []), ([29, 30, 25], [(88, 29), (89, 30)]), ([28, 31, 25], [(87, 28), (90, 31)]), ([25, 32], [(84, 25), (91, 32)]), ([33], [(92, 33)]), ([34], []), ([34], []), ([35, 36, 34], [(94, 35), (95, 36)]), ([34], []), ([34], []), ([38, 39, 34], [(97, 38), (98, 39)]), ([37, 40, 34], [(96, 37), (99, 40)]), ([34, 41], [(93, 34), (100, 41)]), ([42], [(101, 42)])] 102 rfl (by kernel_rfl) (by kernel_rfl) (by kernel_rfl) hg ((by exact hg _ _ hc (Below.drew (Below.refl _ _)))) ?st7 ?ow7 ?_
  case st7 =>
    simp only [List.forall_mem_cons]
    and_intros
    all_goals first | exact isV_st _ | simp
  case ow7 =>
    simp only [OwedQ]
    and_intros
    all_goals try trivial
    all_goals
      intro V w' hc hp
      rw [hC] at hc
      obtain ⟨-, hf, he, hx, hy, hs, hr⟩ := hc
      have q0 := hx.cell 0
      have q1 := hx.cell 1
      have q2 := hx.cell 2
      have q3 := hx.cell 3
      have q4 := hx.cell 4
      have p0 := hy.cell 0
      have p1 := hy.cell 1
      have p2 := hy.cell 2
      simp at q0 q1 q2 q3 q4 p0 p1 p2
      try simp only [List.forall_mem_cons, tab_zero, tab_succ, isV] at hp
      try simp [wantsG, rhoP, List.lookup, hp, tab_zero, tab_succ, ResG, execOp, bareOp, isV, Below.refl, q0, q1, q2, q3, q4, p0, p1, p2, go_sem]
    · rw [str hs]; simp [Result.andThen, Below.refl]
    · rw [str hr]; simp [Result.andThen, Below.refl]
    · refine (Matches_flt hf hlen he hle).mono ?_
      rintro e w2 ⟨rfl, hb⟩
      exact ⟨_, rfl, rfl, hb⟩
    · refine (RefMatches_flt hf hlen he hle).mono ?_
      rintro e w2 ⟨rfl, hb⟩
      exact ⟨_, rfl, rfl, hb⟩
    · refine (Is_calls (s, op, tk, tn, x) (vk, vn, vt) _).mono ?_
      rintro e w2 ⟨rfl, hb⟩
      exact ⟨_, rfl, rfl, hb⟩
    · refine (RefIs_calls (s, op, tk, tn, x) (vk, vn, vt) _).mono ?_
      rintro e w2 ⟨rfl, hb⟩
      exact ⟨_, rfl, rfl, hb⟩
    · refine (Holds_calls _ ev v1 _ he hle).mono ?_
      rintro e w2 ⟨rfl, hb⟩
      exact ⟨_, rfl, rfl, hb⟩
    · refine (RefHolds_calls _ ev v1 _ he hle).mono ?_
      rintro e w2 ⟨rfl, hb⟩
      exact ⟨_, rfl, rfl, hb⟩
  intro V W hc hp
  have hlast := hp 43 (by simp)
  simp only [tab_zero, tab_succ, isV] at hlast
  rw [hC] at hc
  have hbw := hc.1
  clear hp hc hg
  simp only [putAll, Act.put, List.setIfInBounds_toArray, List.set_cons_succ, List.set_cons_zero, hlast]
  go_wp2
  go_ret
  exact ⟨rfl, hbw⟩
end Go.Proofs.Ytejdbdfofehdpaa

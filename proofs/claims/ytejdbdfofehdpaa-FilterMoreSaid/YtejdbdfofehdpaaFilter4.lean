/-
  postilionlaw05.FilterMore: the walk. Conditions: none.
-/
import Derived.Test.YtejdbdfofehdpaaFilter2
import Derived.Test.YtejdbdfofehdpaaFiM
namespace Go.Proofs.Ytejdbdfofehdpaa
open Go Go.RowKit

/-- The place that a number means. -/
def placeF (x : Int) (n : Nat) : Nat := (if x < 0 then (-(x + 1)) else x).toNat % n
theorem matches_more (l : List Tst) (t : Tst) (ev : List Att) : matchesF (l ++ [t]) ev = (matchesF l ev && holdsT t ev) := by simp [matchesF, List.all_append]
theorem matches_turned (l : List Tst) (a : Nat) (ev : List Att) : matchesF (l.drop a ++ l.take a) ev = matchesF l ev := by
  have h : matchesF (l.take a ++ l.drop a) ev = matchesF l ev := by rw [List.take_append_drop]
  rw [← h]
  simp only [matchesF, List.all_append]
  exact Bool.and_comm _ _

set_option maxHeartbeats 2000000 in
set_option maxRecDepth 100000 in
theorem FilterMore_walk (v0 v1 v2 v3 : Value) (w : World) (r0 : repFilter w v0) (r1 : repTest w v1) (r2 : repEvent w v2) (r3 : repI64 w v3) :
    Calls Try.prog 7 #[v0, v1, v2, v3] w fun e w' => e = .returned (.bool true) ∧ Below w.heap.size w w' := by
  obtain ⟨A, c, l, rfl, hR, hi, hlc, hcm⟩ := r0
  obtain ⟨ev, he, -⟩ := evt_rep r2
  obtain ⟨⟨s, op, tk, tn, x⟩, rfl, -⟩ := r1
  obtain ⟨n, rfl, hx0, hx1⟩ := r3
  have hf : flt l (.slice A l.length c) w := ⟨A, c, rfl, hR⟩
  have HRW := Lib.hid hR
  clear r2 hi hR
  have hx := Blk.new w 30 #[.string s, .int .i64 op, .int .i64 tk, .int .i64 tn, .string x]
  have hbw : Below w.heap.size w (w.alloc (.cells #[.string s, .int .i64 op, .int .i64 tk, .int .i64 tn, .string x] 30)) := (Below.refl _ _).alloc (Nat.le_refl _) _
  replace hf := flt_st _ _ _ _ hf hbw
  replace he := evt_st _ _ _ _ he hbw
  go_enter Try.func7, Try.ntmps7
  go_wp2_with fail
  generalize w.alloc (.cells #[.string s, .int .i64 op, .int .i64 tk, .int .i64 tn, .string x] 30) = w1 at *
  refine (awake_calls _).mono ?_
  rintro e w2 ⟨rfl, hb⟩
  replace hf := flt_st _ _ _ _ hf hb
  replace he := evt_st _ _ _ _ he hb
  replace hx := hx.below hb hx.lt
  replace hbw := hbw.trans (hb.mono hbw.size)
  clear hb
  go_wp2_with fail
  refine (FFew_flt hf).mono ?_
  rintro e w' ⟨rfl, rfl⟩
  cases hq : fewF l
  · go_wp2
    go_ret
    exact ⟨rfl, hbw⟩
  have hlen := (fewF_parts hq).1
  have hlen6 := (fewF_fit hq).1
  clear hq
  have q0 := hx.cell 0
  have q1 := hx.cell 1
  have q2 := hx.cell 2
  have q3 := hx.cell 3
  have q4 := hx.cell 4
  simp at q0 q1 q2 q3 q4
  go_wp2_with fail
  have ho : flt [((s, op, tk, tn, x) : Tst)] (.slice (some ⟨w2.heap.size, 0, none⟩) 1 1) (w2.alloc (.cells #[.string s, .int .i64 op, .int .i64 tk, .int .i64 tn, .string x] 30)) := ⟨_, _, rfl, (Reads.new w2 (tstc ((s, op, tk, tn, x) : Tst)) 30 5 1 rfl).more (by simp)⟩
  clear q0 q1 q2 q3 q4
  have hb : Below w2.heap.size w2 (w2.alloc (.cells #[.string s, .int .i64 op, .int .i64 tk, .int .i64 tn, .string x] 30)) := (Below.refl _ _).alloc (Nat.le_refl _) _
  replace hf := flt_st _ _ _ _ hf hb
  replace he := evt_st _ _ _ _ he hb
  replace hx := hx.below hb hx.lt
  replace hbw := hbw.trans (hb.mono hbw.size)
  clear hb
  generalize w2.alloc (.cells #[.string s, .int .i64 op, .int .i64 tk, .int .i64 tn, .string x] 30) = w3 at *
  generalize w2.heap.size = g3 at *
  refine (FFew_flt ho).mono ?_
  rintro e w' ⟨rfl, rfl⟩
  clear ho
  cases hq : fewF [((s, op, tk, tn, x) : Tst)]
  · go_wp2
    go_ret
    exact ⟨rfl, hbw⟩
  clear hq
  go_wp2_with fail
  refine (Few_evt he).mono ?_
  rintro e w' ⟨rfl, rfl⟩
  cases hq : fewE ev
  · go_wp2
    go_ret
    exact ⟨rfl, hbw⟩
  have hle := (few_fit hq).1
  clear hq
  obtain ⟨a, ha⟩ : ∃ a, a = placeF n (l.length + 1) := ⟨_, rfl⟩
  have hal : a ≤ l.length := by have h : a < l.length + 1 := (by rw [ha]; exact Nat.mod_lt _ (by omega)); omega
  have HA := Lib.hid ha
  clear ha
  obtain ⟨m, hm⟩ : ∃ m : Nat, (m : Int) = if n < 0 then -(n + 1) else n := by
    by_cases h : n < 0
    · exact ⟨(-(n + 1)).toNat, by rw [if_pos h]; omega⟩
    · exact ⟨n.toNat, by rw [if_neg h]; omega⟩
  have hml : (m : Int) ≤ 9223372036854775807 := by rw [hm]; split <;> omega
  have HM := Lib.hid hm
  clear hm
  go_upto_if 30 with (fail)
  go_cut [3] from 30 to 33 (fun v wc => v = .int .i64 (m : Int) ∧ w3 = wc)
  case first =>
    by_cases hx : n < 0
    · have HX : Hid (-(n + 1) = (m : Int)) := by refine Lib.hid ?_; rw [HM.out, if_pos hx]
      go_wp2
      go_meet
      case rel => exact ⟨by rw [← HX.out], rfl⟩
    · have HX : Hid (n = (m : Int)) := by refine Lib.hid ?_; rw [HM.out, if_neg hx]
      have hx' : 0 ≤ n := by omega
      go_wp2
      go_meet
      case rel => exact ⟨by rw [← HX.out], rfl⟩
  case rest =>
  obtain ⟨rfl, rfl⟩ := hcut
  have hlp : (1 : Int) ≤ (l.length : Int) + 1 := by omega
  have HMA : Hid (m % (l.length + 1) = a) := by
    refine Lib.hid ?_
    have h1 := HA.out
    unfold placeF at h1
    rw [h1, ← HM.out]
    rfl
  go_upto_region 6 with (fail)
  go_cut [3] from 34 to 38 (fun v wc => v = .int .i64 (a : Int) ∧ w3 = wc)
  case first =>
    go_wp2
    go_meet
    case rel => exact ⟨by rw [← HMA.out]; first | rfl | simp, rfl⟩
  case rest =>
  obtain ⟨rfl, rfl⟩ := hcut
  clear HMA HM HA hml hlp
  have HRR := Lib.hid (HRW.out.below hbw (Nat.le_refl _))
  have hz := hbw.size
  go_upto_region 7 with (fail)
  obtain ⟨C, hC⟩ : ∃ C : World → Prop, C = fun W => Below w3.heap.size w3 W := ⟨_, rfl⟩
  have hg : ∀ W W', C W → Below W.heap.size W W' → C W' := by
    subst hC
    exact fun W W' h1 hb => h1.trans (hb.mono h1.size)
  have hc0 : C w3 := by rw [hC]; exact Below.refl _ _
  refine wp_region_kill C (MkF 2 w3.heap.size) [2, 5] [[2, 5], [], [5], [], [5], [], []]
    [empF w3.heap.size, isV (.slice A l.length c), fun v W => OwnF W w3.heap.size v l, isV (tstv (s, op, tk, tn, x)), oneF (s, op, tk, tn, x), fun v W => OwnF W w3.heap.size v (l ++ [(s, op, tk, tn, x)]), fun v W => OwnF W w3.heap.size v (l ++ [(s, op, tk, tn, x)])]
    [([], []), ([], []), ([0, 1], [(39, 0), (40, 1)]), ([], []), ([3], [(42, 3)]), ([2, 4], [(41, 2), (43, 4)]), ([5], [(44, 5)])] 81 rfl (by kernel_rfl) (by kernel_rfl) (by kernel_rfl) (by kernel_rfl) hg (by exact hg _ _ hc0 (Below.drew (Below.refl _ _))) ?st7 ?sz7 ?ow7 ?_
  case st7 =>
    simp only [List.forall_mem_cons]
    and_intros
    all_goals first
      | exact isV_st _
      | exact ownF_grow _ _
      | (rintro v W W' ⟨g, rfl, h1, h2⟩ hb; exact ⟨g, rfl, h1, h2.below hb h2.lt⟩)
      | (rintro v W W' ⟨g, rfl, h2⟩ hb; exact ⟨g, rfl, h2.below hb h2.lt⟩)
      | (rintro v W W' ⟨A, c, rfl, h1, h2⟩ hb; exact ⟨A, c, rfl, reads_growF h1 hb, h2⟩)
      | simp
  case sz7 =>
    refine kill_st _ ?_
    intro z hz
    simp only [List.mem_cons, List.not_mem_nil, or_false] at hz
    rcases hz with rfl | rfl
    all_goals
      simp only [List.zipIdx_cons, List.zipIdx_nil, List.forall_mem_cons]
      and_intros
      all_goals first
        | (left; rfl)
        | (right; exact isV_any _ _)
        | (right; intro v W W' h hm; exact lowF_any _ _ _ _ _ _ h (MkF_below hm))
        | (right; exact oneF_MF _)
        | simp
  case ow7 =>
    simp only [OwedK]
    refine ⟨?b0, ?b1, ?g2, ?b3, ?b4, ?g5, ?b6, trivial⟩
    case g2 =>
      intro V w' hc hp
      rw [hC] at hc
      simp only [List.forall_mem_cons, tab_zero, tab_succ, isV] at hp
      obtain ⟨hemp, h3, -⟩ := hp
      rw [if_pos (show wantsG V none = true from rfl)]
      refine resK_app3 30 30 w3.heap.size _ 5 56 TT5 Try.underlying24 (V 0) 0 [] rfl (empF_own hemp) w.heap.size A l.length c (l.flatMap tstc) h3 (HRR.out.below hc hz) (tsts_one _) (by omega) hc.size ?_
      intro v' w'' h5 h6 h7
      refine ⟨?_, ?_, ?_⟩
      · show OwnF w'' w3.heap.size v' l
        unfold OwnF
        simpa using h5
      · rw [hC]; exact hc.trans h6
      · obtain ⟨g, hg1, _, hg3⟩ := hemp
        rw [hg1] at h7
        exact ⟨h6, g, hg3, h7⟩
    case g5 =>
      intro V w' hc hp
      rw [hC] at hc
      simp only [List.forall_mem_cons, tab_zero, tab_succ] at hp
      obtain ⟨hown, ⟨g9, h9, hb9⟩, -⟩ := hp
      rw [if_pos (show wantsG V none = true from rfl)]
      have hr9 : Reads w' (g9 + 1) 5 (some ⟨g9, 0, none⟩) 1 (tstc (s, op, tk, tn, x)) := ⟨rfl, fun _ => ⟨g9, 0, rfl, by omega, fun j u hu => by
        rw [Nat.zero_add, hb9.cell j]
        simpa using hu⟩⟩
      refine resK_app3 30 30 w3.heap.size _ 5 56 TT5 infoTests (V 2) _ _ rfl hown (g9 + 1) (some ⟨g9, 0, none⟩) 1 1 (tstc (s, op, tk, tn, x)) h9 hr9 (tstc_one _) (by omega) hc.size ?_
      intro v' w'' h5 h6 h7
      refine ⟨?_, ?_, ?_⟩
      · show OwnF w'' w3.heap.size v' (l ++ [(s, op, tk, tn, x)])
        unfold OwnF
        rw [List.flatMap_append, List.length_append]
        simpa using h5
      · rw [hC]; exact hc.trans h6
      · exact h6
    all_goals
      intro V w' hc hp
      rw [hC] at hc
      have hxw := hx.below hc hx.lt
      have q0 := hxw.cell 0
      have q1 := hxw.cell 1
      have q2 := hxw.cell 2
      have q3 := hxw.cell 3
      have q4 := hxw.cell 4
      simp at q0 q1 q2 q3 q4
      try simp only [List.forall_mem_cons, tab_zero, tab_succ, isV] at hp
      try simp [wantsG, rhoP, List.lookup, hp, tab_zero, tab_succ, ResG, execOp, bareOp, isV, undef, Below.refl, q0, q1, q2, q3, q4, go_sem]
    case b0 => exact ⟨⟨_, rfl, hc.size, Blk.new _ _ _⟩, (Below.refl _ _).alloc (Nat.le_refl _) _⟩
    case b4 => exact ⟨⟨_, rfl, Blk.new _ _ _⟩, (Below.refl _ _).alloc (Nat.le_refl _) _⟩
  intro V W5 hc hp
  have hlast := hp 6 (by simp) rfl
  simp only [tab_zero, tab_succ] at hlast
  rw [hC] at hc
  clear hp hg hc0 hC
  simp only [putAll, Act.put, List.setIfInBounds_toArray, List.set_cons_succ, List.set_cons_zero]
  have hmo := flt_own hlast
  clear hlast
  generalize V 6 = v10 at *
  replace hx := hx.below hc hx.lt
  replace hf := flt_st _ _ _ _ hf hc
  replace he := evt_st _ _ _ _ he hc
  replace HRR := Lib.hid (HRR.out.below hc hz)
  replace hbw := hbw.trans (hc.mono hz)
  replace hz := hbw.size
  clear hc
  go_upto_region 8 with (fail)
  obtain ⟨C, hC⟩ : ∃ C : World → Prop, C = fun W => Below W5.heap.size W5 W := ⟨_, rfl⟩
  have hg : ∀ W W', C W → Below W.heap.size W W' → C W' := by
    subst hC
    exact fun W W' h1 hb => h1.trans (hb.mono h1.size)
  have hc0 : C W5 := by rw [hC]; exact Below.refl _ _
  refine wp_region_kill C (MkF 4 W5.heap.size) [4, 8] [[4, 8], [], [], [], [8], [], [], [], [], []]
    [empF W5.heap.size, isV (.slice A l.length c), isV (.int .i64 (a : Int)), lowF w.heap.size W5.heap.size (l.drop a), fun v W1 => OwnF W1 W5.heap.size v (l.drop a), isV (.slice A l.length c), isV (.int .i64 (a : Int)), isV (.slice A a c), fun v W1 => OwnF W1 W5.heap.size v (l.drop a ++ l.take a), fun v W1 => OwnF W1 W5.heap.size v (l.drop a ++ l.take a)]
    [([], []), ([], []), ([], []), ([1, 2], [(46, 1), (47, 2)]), ([0, 3], [(45, 0), (48, 3)]), ([], []), ([], []), ([5, 6], [(50, 5), (51, 6)]), ([4, 7], [(49, 4), (52, 7)]), ([8], [(53, 8)])] 81 rfl (by kernel_rfl) (by kernel_rfl) (by kernel_rfl) (by kernel_rfl) hg (by exact hg _ _ hc0 (Below.drew (Below.refl _ _))) ?st8 ?sz8 ?ow8 ?_
  case st8 =>
    simp only [List.forall_mem_cons]
    and_intros
    all_goals first
      | exact isV_st _
      | exact ownF_grow _ _
      | (rintro v W W' ⟨g, rfl, h1, h2⟩ hb; exact ⟨g, rfl, h1, h2.below hb h2.lt⟩)
      | (rintro v W W' ⟨g, rfl, h2⟩ hb; exact ⟨g, rfl, h2.below hb h2.lt⟩)
      | (rintro v W W' ⟨A, c, rfl, h1, h2⟩ hb; exact ⟨A, c, rfl, reads_growF h1 hb, h2⟩)
      | simp
  case sz8 =>
    refine kill_st _ ?_
    intro z hz
    simp only [List.mem_cons, List.not_mem_nil, or_false] at hz
    rcases hz with rfl | rfl
    all_goals
      simp only [List.zipIdx_cons, List.zipIdx_nil, List.forall_mem_cons]
      and_intros
      all_goals first
        | (left; rfl)
        | (right; exact isV_any _ _)
        | (right; intro v W W' h hm; exact lowF_any _ _ _ _ _ _ h (MkF_below hm))
        | (right; exact oneF_MF _)
        | simp
  case ow8 =>
    have hR := HRR.out
    have hRt := hR.preF a (by omega)
    have hRd := hR.postF (A' := if c = a then A else A.map (·.add (a * 5))) a (by intro h; rw [if_neg (by omega)])
    have hdl : (l.drop a).length = l.length - a := by simp
    have htl : (l.take a).length = a := by simp; omega
    have ha0 : (0 : Int) ≤ (a : Int) := by omega
    have hac : (a : Int) ≤ (c : Int) := by omega
    simp only [OwedK]
    refine ⟨?d0, ?d1, ?d2, ?d3, ?k4, ?d5, ?d6, ?d7, ?k8, ?d9, trivial⟩
    case k4 =>
      intro V w' hc hp
      rw [hC] at hc
      simp only [List.forall_mem_cons, tab_zero, tab_succ] at hp
      obtain ⟨hemp, ⟨A8, c8, h8, hr8, hB8⟩, -⟩ := hp
      rw [if_pos (show wantsG V none = true from rfl)]
      refine resK_app3 30 30 W5.heap.size _ 5 56 TT5 Try.underlying24 (V 0) 0 [] rfl (empF_own hemp) w.heap.size A8 _ c8 ((l.drop a).flatMap tstc) h8 hr8 (tsts_one _) (by rw [hdl]; omega) hc.size ?_
      intro v' w'' h5 h6 h7
      refine ⟨?_, ?_, ?_⟩
      · show OwnF w'' W5.heap.size v' (l.drop a)
        unfold OwnF
        simpa using h5
      · rw [hC]; exact hc.trans h6
      · obtain ⟨g, hg1, _, hg3⟩ := hemp
        rw [hg1] at h7
        exact ⟨h6, g, hg3, h7⟩
    case k8 =>
      intro V w' hc hp
      rw [hC] at hc
      simp only [List.forall_mem_cons, tab_zero, tab_succ, isV] at hp
      obtain ⟨hown, h3, -⟩ := hp
      rw [if_pos (show wantsG V none = true from rfl)]
      refine resK_app3 30 30 W5.heap.size _ 5 56 TT5 Try.underlying24 (V 4) _ _ rfl hown w.heap.size A a c ((l.take a).flatMap tstc) h3 (hRt.below hc hz) (tsts_one _) (by rw [hdl]; omega) hc.size ?_
      intro v' w'' h5 h6 h7
      refine ⟨?_, ?_, ?_⟩
      · show OwnF w'' W5.heap.size v' (l.drop a ++ l.take a)
        unfold OwnF
        rw [List.flatMap_append, List.length_append, htl]
        exact h5
      · rw [hC]; exact hc.trans h6
      · exact h6
    all_goals
      intro V w' hc hp
      rw [hC] at hc
      try simp only [List.forall_mem_cons, tab_zero, tab_succ, isV] at hp
      try simp [wantsG, rhoP, List.lookup, hp, tab_zero, tab_succ, ResG, execOp, bareOp, isV, undef, Below.refl, ha0, hac, go_sem]
    case d0 => exact ⟨⟨_, rfl, hc.size, Blk.new _ _ _⟩, (Below.refl _ _).alloc (Nat.le_refl _) _⟩
    case d3 =>
      rw [if_pos hal]
      exact ⟨⟨_, _, by rw [hdl], by rw [hdl]; exact hRd.below hc hz, hz⟩, Below.refl _ _⟩
  intro V W1 hc hp
  have hlast := hp 9 (by simp) rfl
  simp only [tab_zero, tab_succ] at hlast
  rw [hC] at hc
  clear hp hg hc0 hC
  simp only [putAll, Act.put, List.setIfInBounds_toArray, List.set_cons_succ, List.set_cons_zero]
  have htu := flt_own hlast
  clear hlast
  generalize V 9 = v11 at *
  replace hx := hx.below hc hx.lt
  replace hf := flt_st _ _ _ _ hf hc
  replace hmo := flt_st _ _ _ _ hmo hc
  replace he := evt_st _ _ _ _ he hc
  replace hbw := hbw.trans (hc.mono hz)
  clear hc HRR hz HRW
  go_wp2_with fail
  refine (Matches_flt hf hlen6 he hle).mono ?_
  rintro e w11 ⟨rfl, hb⟩
  replace hx := hx.below hb hx.lt
  replace hf := flt_st _ _ _ _ hf hb
  replace hmo := flt_st _ _ _ _ hmo hb
  replace htu := flt_st _ _ _ _ htu hb
  replace he := evt_st _ _ _ _ he hb
  replace hbw := hbw.trans (hb.mono hbw.size)
  clear hb
  have HM : Hid (matchesF (l ++ [((s, op, tk, tn, x) : Tst)]) ev = (matchesF l ev && holdsT ((s, op, tk, tn, x) : Tst) ev)) := Lib.hid (matches_more _ _ _)
  have HT : Hid (matchesF (l.drop a ++ l.take a) ev = matchesF l ev) := Lib.hid (matches_turned _ _ _)
  have hml : (l ++ [((s, op, tk, tn, x) : Tst)]).length ≤ 1000000 := by simp; omega
  have htl : (l.drop a ++ l.take a).length ≤ 1000000 := by simp; omega
  have hfn := fun W => (⟨none, 0, rfl, Reads.nil W W.heap.size 5 none⟩ : flt [] (.slice none 0 0) W)
  generalize matchesF l ev = mf at *
  cases mf
  · go_wp2_with fail
    refine (Matches_flt hmo hml he hle).mono ?_
    rintro e w12 ⟨rfl, hb⟩
    rw [HM.out]
    replace hx := hx.below hb hx.lt
    replace hf := flt_st _ _ _ _ hf hb
    replace hmo := flt_st _ _ _ _ hmo hb
    replace htu := flt_st _ _ _ _ htu hb
    replace he := evt_st _ _ _ _ he hb
    replace hbw := hbw.trans (hb.mono hbw.size)
    clear hb
    go_wp2_with fail
    refine (Matches_flt htu htl he hle).mono ?_
    rintro e w13 ⟨rfl, hb⟩
    rw [HT.out]
    replace hx := hx.below hb hx.lt
    replace hf := flt_st _ _ _ _ hf hb
    replace hmo := flt_st _ _ _ _ hmo hb
    replace htu := flt_st _ _ _ _ htu hb
    replace he := evt_st _ _ _ _ he hb
    replace hbw := hbw.trans (hb.mono hbw.size)
    clear hb
    go_wp2_with fail
    refine (Matches_flt (hfn _) (by simp) he hle).mono ?_
    rintro e w14 ⟨rfl, hb⟩
    rw [show matchesF [] ev = true from rfl]
    replace hx := hx.below hb hx.lt
    replace hf := flt_st _ _ _ _ hf hb
    replace hmo := flt_st _ _ _ _ hmo hb
    replace htu := flt_st _ _ _ _ htu hb
    replace he := evt_st _ _ _ _ he hb
    replace hbw := hbw.trans (hb.mono hbw.size)
    clear hb
    go_wp2
    go_ret
    exact ⟨by simp, hbw⟩
  · go_wp2_with fail
    refine (Matches_flt hmo hml he hle).mono ?_
    rintro e w12 ⟨rfl, hb⟩
    rw [HM.out]
    replace hx := hx.below hb hx.lt
    replace hf := flt_st _ _ _ _ hf hb
    replace hmo := flt_st _ _ _ _ hmo hb
    replace htu := flt_st _ _ _ _ htu hb
    replace he := evt_st _ _ _ _ he hb
    replace hbw := hbw.trans (hb.mono hbw.size)
    clear hb
    have q0 := hx.cell 0
    have q1 := hx.cell 1
    have q2 := hx.cell 2
    have q3 := hx.cell 3
    have q4 := hx.cell 4
    simp at q0 q1 q2 q3 q4
    go_wp2_with fail
    clear q0 q1 q2 q3 q4
    refine (Holds_calls ((s, op, tk, tn, x) : Tst) ev v2 _ he hle).mono ?_
    rintro e w13 ⟨rfl, hb⟩
    replace hx := hx.below hb hx.lt
    replace hf := flt_st _ _ _ _ hf hb
    replace hmo := flt_st _ _ _ _ hmo hb
    replace htu := flt_st _ _ _ _ htu hb
    replace he := evt_st _ _ _ _ he hb
    replace hbw := hbw.trans (hb.mono hbw.size)
    clear hb
    generalize holdsT ((s, op, tk, tn, x) : Tst) ev = hh at *
    go_wp2_with fail
    refine (Matches_flt htu htl he hle).mono ?_
    rintro e w14 ⟨rfl, hb⟩
    rw [HT.out]
    replace hx := hx.below hb hx.lt
    replace hf := flt_st _ _ _ _ hf hb
    replace hmo := flt_st _ _ _ _ hmo hb
    replace htu := flt_st _ _ _ _ htu hb
    replace he := evt_st _ _ _ _ he hb
    replace hbw := hbw.trans (hb.mono hbw.size)
    clear hb
    go_wp2_with fail
    refine (Matches_flt (hfn _) (by simp) he hle).mono ?_
    rintro e w15 ⟨rfl, hb⟩
    rw [show matchesF [] ev = true from rfl]
    replace hx := hx.below hb hx.lt
    replace hf := flt_st _ _ _ _ hf hb
    replace hmo := flt_st _ _ _ _ hmo hb
    replace htu := flt_st _ _ _ _ htu hb
    replace he := evt_st _ _ _ _ he hb
    replace hbw := hbw.trans (hb.mono hbw.size)
    clear hb
    go_wp2
    go_ret
    exact ⟨by simp, hbw⟩
end Go.Proofs.Ytejdbdfofehdpaa

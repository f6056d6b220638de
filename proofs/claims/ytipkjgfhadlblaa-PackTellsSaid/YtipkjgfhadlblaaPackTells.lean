/-
  postilionlaw02.PackTells: the walk: what is packed is what the document's answer packs. Conditions: none.
-/
import Derived.Test.YtipkjgfhadlblaaPackE
import Derived.Test.YtipkjgfhadlblaaRefA
import Derived.Test.YtipkjgfhadlblaaPackPlain
import Derived.Test.YtipkjgfhadlblaaOpen
namespace Go.Proofs.Ytipkjgfhadlblaa
open Go Go.RowKit

theorem add_bytes (a b : List UInt8) : (⟨a.toArray⟩ : ByteArray) ++ ⟨b.toArray⟩ = ⟨(a ++ b).toArray⟩ := by
  apply ByteArray.ext
  simp

set_option maxHeartbeats 4000000 in
set_option maxRecDepth 100000 in
theorem PackTells_walk (v0 v1 v2 v3 : Value) (w : World) (r0 : repBytes w v0) (r1 : repU64 w v1) (r2 : repBytes w v2) (r3 : repVal w v3) :
    Calls Try.prog 5 #[v0, v1, v2, v3] w fun e w' => e = .returned (.bool true) ∧ Below w.heap.size w w' := by
  obtain ⟨A, c, l, rfl, hR, hlc, hcm⟩ := r0
  obtain ⟨n, rfl, hn⟩ := r1
  obtain ⟨D, d, b, rfl, hS, hbd, hdm⟩ := r2
  obtain ⟨k, x, s, rfl, hk, hx⟩ := r3
  unfold maxLen at hcm hdm
  have hbox : Below w.heap.size w (w.alloc (.cells #[.int .i64 k, .int .i64 x, .string s] 28)) := (Below.refl _ _).alloc (Nat.le_refl _) _
  have hx1 := Blk.new w 28 #[.int .i64 k, .int .i64 x, .string s]
  have hlr : Hid (∀ W : World, Below w.heap.size w W → sl l (.slice A l.length c) W) := Lib.hid fun W hb => ⟨A, c, rfl, (hR.below hb (Nat.le_refl _)).more hb.size⟩
  have hbr : Hid (∀ W : World, Below w.heap.size w W → sl b (.slice D b.length d) W) := Lib.hid fun W hb => ⟨D, d, rfl, (hS.below hb (Nat.le_refl _)).more hb.size⟩
  clear hR hS
  generalize hm : l.length = m at *
  have HM := Lib.hid hm
  clear hm
  generalize hmb : b.length = mb at *
  have HB := Lib.hid hmb
  clear hmb
  go_enter Try.func5, Try.ntmps5
  go_wp2_with fail
  refine (awake_calls _).mono ?_
  rintro e w1 ⟨rfl, hb1⟩
  have hbw1 := hbox.trans (hb1.mono hbox.size)
  have hy1 := hx1.below hb1 hx1.lt
  clear hx1 hb1 hbox
  by_cases hl5 : m ≤ 500
  rotate_left
  · have hl5' : (500 : Int) < (m : Int) := by omega
    go_wp2
    go_ret
    exact ⟨rfl, hbw1⟩
  have hl5' : ¬ (500 : Int) < (m : Int) := by omega
  by_cases hb5 : mb ≤ 500
  rotate_left
  · have hb5' : (500 : Int) < (mb : Int) := by omega
    go_wp2
    go_ret
    exact ⟨rfl, hbw1⟩
  have hb5' : ¬ (500 : Int) < (mb : Int) := by omega
  have q0 := hy1.cell 0
  have q1 := hy1.cell 1
  have q2 := hy1.cell 2
  simp at q0 q1 q2
  go_wp2_with fail
  refine (Check_calls k x s w1).mono ?_
  rintro e w2 ⟨rfl, hb2⟩
  have hbw2 := hbw1.trans (hb2.mono hbw1.size)
  have hy2 := hy1.below hb2 hy1.lt
  clear hy1 hb2 hbw1 q0 q1 q2
  cases hok : okV k x s with
  | false =>
    have hch : (chk k x s != 0) = true := by simp [chk, hok]
    go_wp2
    go_ret
    exact ⟨rfl, hbw2⟩
  | true =>
  have hch : (chk k x s != 0) = false := by simp [chk, hok]
  have hsz := (okV_kind hok).2
  obtain ⟨C, hC⟩ : ∃ C : World → Prop, C = fun W => Below w.heap.size w W ∧ sl l (.slice A m c) W ∧ sl b (.slice D mb d) W ∧ Blk W w.heap.size 28 #[.int .i64 k, .int .i64 x, .string s] := ⟨_, rfl⟩
  have hg : ∀ W W', C W → Below W.heap.size W W' → C W' := by
    subst hC
    rintro W W' ⟨h1, h2, h3, h4⟩ hb
    exact ⟨h1.trans (hb.mono h1.size), sl_st _ _ _ _ h2 hb, sl_st _ _ _ _ h3 hb, h4.below hb h4.lt⟩
  have hc2 : C w2 := by
    rw [hC]
    exact ⟨hbw2, hlr.out _ hbw2, hbr.out _ hbw2, hy2⟩
  clear hbw2 hy2
  go_wp2_with fail
  refine wp_region_grow C [isV (.slice A m c), isV (.int .u64 (n : Int)), sl (l ++ packN n), isV (.string ⟨(l ++ packN n).toArray⟩), isV (.slice A m c), isV (.string ⟨l.toArray⟩), isV (.int .u64 (n : Int)), sl (packN n), isV (.string ⟨(packN n).toArray⟩), isV (.string ⟨(l ++ packN n).toArray⟩), isV (.bool true), isV (.bool true)]
    [([], []), ([], []), ([0, 1], [(28, 0), (29, 1)]), ([2], [(30, 2)]), ([], []), ([4], [(32, 4)]), ([], []), ([6], [(34, 6)]), ([7], [(35, 7)]), ([5, 8], [(33, 5), (36, 8)]), ([3, 9], [(31, 3), (37, 9)]), ([10], [(38, 10)])] 71 rfl (by kernel_rfl) (by kernel_rfl) (by kernel_rfl) hg (by exact hg _ _ hc2 (Below.drew (Below.refl _ _))) ?st4 ?ow4 ?_
  case st4 =>
    simp only [List.forall_mem_cons]
    and_intros
    all_goals first | exact isV_st _ | exact sl_st _ | simp
  case ow4 =>
    simp only [OwedQ]
    and_intros
    all_goals try trivial
    all_goals
      intro V w' hc hp
      try simp only [List.forall_mem_cons, tab_zero, tab_succ, isV] at hp
      try simp [wantsG, rhoP, List.lookup, hp, tab_zero, tab_succ, ResG, execOp, bareOp, isV, undef, Below.refl, add_bytes, go_sem]
    all_goals rw [hC] at hc
    · obtain ⟨A', c', he, hr⟩ := hc.2.1
      simp only [Value.slice.injEq] at he
      obtain ⟨rfl, he, rfl⟩ := he
      refine (Number_calls A m c l n hn w' w'.heap.size (by rw [he]; exact hr) (Nat.le_refl _) (by omega)).mono ?_
      rintro e w'' ⟨v, rfl, ho, hb⟩
      exact ⟨v, rfl, sl_own (by simpa using ho), hb⟩
    · rw [str hp.1]; simp [Result.andThen, Below.refl]
    · rw [str hc.2.1]; simp [Result.andThen, Below.refl]
    · refine (RefNumber_calls n hn w').mono ?_
      rintro e w'' ⟨v, rfl, ho, hb⟩
      exact ⟨v, rfl, sl_own ho, hb⟩
    · rw [str hp.1]; simp [Result.andThen, Below.refl]
    · have h1 := packN_len n hn
      have h0 := HM.out
      rw [if_neg (by omega)]
      exact ⟨rfl, Below.refl _ _⟩
  intro V4 W4 hc4 hp4
  have hr4 : V4 11 = .bool true := hp4 11 (by simp)
  clear hp4
  simp only [putAll, Act.put, List.setIfInBounds_toArray, List.set_cons_succ, List.set_cons_zero, hr4]
  go_wp2_with fail
  refine wp_region_grow C [isV (.slice A m c), isV (.slice D mb d), sl (l ++ (packN mb ++ b)), isV (.string ⟨(l ++ (packN mb ++ b)).toArray⟩), isV (.slice A m c), isV (.string ⟨l.toArray⟩), isV (.slice D mb d), sl ((packN mb ++ b)), isV (.string ⟨((packN mb ++ b)).toArray⟩), isV (.string ⟨(l ++ (packN mb ++ b)).toArray⟩), isV (.bool true), isV (.bool true)]
    [([], []), ([], []), ([0, 1], [(39, 0), (40, 1)]), ([2], [(41, 2)]), ([], []), ([4], [(43, 4)]), ([], []), ([6], [(45, 6)]), ([7], [(46, 7)]), ([5, 8], [(44, 5), (47, 8)]), ([3, 9], [(42, 3), (48, 9)]), ([10], [(49, 10)])] 71 rfl (by kernel_rfl) (by kernel_rfl) (by kernel_rfl) hg (by exact hg _ _ hc4 (Below.drew (Below.refl _ _))) ?st5 ?ow5 ?_
  case st5 =>
    simp only [List.forall_mem_cons]
    and_intros
    all_goals first | exact isV_st _ | exact sl_st _ | simp
  case ow5 =>
    simp only [OwedQ]
    and_intros
    all_goals try trivial
    all_goals
      intro V w' hc hp
      try simp only [List.forall_mem_cons, tab_zero, tab_succ, isV] at hp
      try simp [wantsG, rhoP, List.lookup, hp, tab_zero, tab_succ, ResG, execOp, bareOp, isV, undef, Below.refl, add_bytes, go_sem]
    all_goals rw [hC] at hc
    · obtain ⟨A', c', he, hr⟩ := hc.2.1
      simp only [Value.slice.injEq] at he
      obtain ⟨rfl, he, rfl⟩ := he
      obtain ⟨D', d', he2, hr2⟩ := hc.2.2.1
      simp only [Value.slice.injEq] at he2
      obtain ⟨rfl, he2, rfl⟩ := he2
      refine (Bytes_calls A D m c mb d l b w' w'.heap.size (by rw [he]; exact hr) (by rw [he2]; exact hr2) (Nat.le_refl _) (by omega) (by omega)).mono ?_
      rw [← he2]
      rintro e w'' ⟨v, rfl, ho, hb⟩
      exact ⟨v, rfl, sl_own (by simpa using ho), hb⟩
    · rw [str hp.1]; simp [Result.andThen, Below.refl]
    · rw [str hc.2.1]; simp [Result.andThen, Below.refl]
    · obtain ⟨D', d', he2, hr2⟩ := hc.2.2.1
      simp only [Value.slice.injEq] at he2
      obtain ⟨rfl, he2, rfl⟩ := he2
      refine (RefBytes_calls D mb d b w' w'.heap.size (by rw [he2]; exact hr2) (Nat.le_refl _) (by omega)).mono ?_
      rw [← he2]
      rintro e w'' ⟨v, rfl, ho, hb⟩
      exact ⟨v, rfl, sl_own ho, hb⟩
    · rw [str hp.1]; simp [Result.andThen, Below.refl]
    · have h1 := packN_len mb (by omega)
      have h2 := HB.out
      have h0 := HM.out
      rw [if_neg (by omega)]
      exact ⟨rfl, Below.refl _ _⟩
  intro V5 W5 hc5 hp5
  have hr5 : V5 11 = .bool true := hp5 11 (by simp)
  clear hp5
  simp only [putAll, Act.put, List.setIfInBounds_toArray, List.set_cons_succ, List.set_cons_zero, hr5]
  go_wp2_with fail
  refine wp_region_grow C [isV (.slice A m c), isV (vv k x s), sl (l ++ packV k x s), isV (.string ⟨(l ++ packV k x s).toArray⟩), isV (.slice A m c), isV (.string ⟨l.toArray⟩), isV (vv k x s), sl (packV k x s), isV (.string ⟨(packV k x s).toArray⟩), isV (.string ⟨(l ++ packV k x s).toArray⟩), isV (.bool true), isV (.bool true)]
    [([], []), ([], []), ([0, 1], [(50, 0), (51, 1)]), ([2], [(52, 2)]), ([], []), ([4], [(54, 4)]), ([], []), ([6], [(56, 6)]), ([7], [(57, 7)]), ([5, 8], [(55, 5), (58, 8)]), ([3, 9], [(53, 3), (59, 9)]), ([10], [(60, 10)])] 71 rfl (by kernel_rfl) (by kernel_rfl) (by kernel_rfl) hg (by exact hg _ _ hc5 (Below.drew (Below.refl _ _))) ?st6 ?ow6 ?_
  case st6 =>
    simp only [List.forall_mem_cons]
    and_intros
    all_goals first | exact isV_st _ | exact sl_st _ | simp
  case ow6 =>
    simp only [OwedQ]
    and_intros
    all_goals try trivial
    all_goals
      intro V w' hc hp
      have hbk : Blk w' w.heap.size 28 #[.int .i64 k, .int .i64 x, .string s] := by rw [hC] at hc; exact hc.2.2.2
      have c0 := hbk.cell 0
      have c1 := hbk.cell 1
      have c2 := hbk.cell 2
      simp at c0 c1 c2
      try simp only [List.forall_mem_cons, tab_zero, tab_succ, isV] at hp
      try simp [wantsG, rhoP, List.lookup, hp, tab_zero, tab_succ, ResG, execOp, bareOp, isV, undef, Below.refl, c0, c1, c2, add_bytes, go_sem]
    all_goals rw [hC] at hc
    · obtain ⟨A', c', he, hr⟩ := hc.2.1
      simp only [Value.slice.injEq] at he
      obtain ⟨rfl, he, rfl⟩ := he
      refine (Value_calls A m c l k x s w' w'.heap.size (by rw [he]; exact hr) (Nat.le_refl _) (by omega) (by omega) hx.1 hx.2).mono ?_
      rintro e w'' ⟨v, rfl, ho, hb⟩
      exact ⟨v, rfl, sl_own (by simpa using ho), hb⟩
    · rw [str hp.1]; simp [Result.andThen, Below.refl]
    · rw [str hc.2.1]; simp [Result.andThen, Below.refl]
    · refine (RefValue_calls k x s w' (by omega) hx.1 hx.2).mono ?_
      rintro e w'' ⟨v, rfl, ho, hb⟩
      exact ⟨v, rfl, sl_own ho, hb⟩
    · rw [str hp.1]; simp [Result.andThen, Below.refl]
    · have h1 := packN_len (kindN k) (kindN_lt _)
      have h2 := packN_len (numV k x) (numV_lt _ _ hx.1 hx.2)
      have h3 := packN_len s.size (by omega)
      have h4 : s.data.size ≤ 40 := hsz
      have h5 : (packV k x s).length ≤ 67 := by simp [packV]; omega
      have h0 := HM.out
      rw [if_neg (by omega)]
      exact ⟨rfl, Below.refl _ _⟩
  intro V6 W6 hc6 hp6
  have hr6 : V6 11 = .bool true := hp6 11 (by simp)
  clear hp6
  simp only [putAll, Act.put, List.setIfInBounds_toArray, List.set_cons_succ, List.set_cons_zero, hr6]
  go_wp2_with fail
  go_wp2
  go_ret
  rw [hC] at hc6
  exact ⟨rfl, hc6.1⟩
end Go.Proofs.Ytipkjgfhadlblaa
